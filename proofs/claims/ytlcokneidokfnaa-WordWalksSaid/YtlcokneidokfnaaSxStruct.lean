/-
  The walking framework, part 4: variables of a struct type in blocks of their own, results in memory, comparison of structs, max.
-/
import Derived.Test.YtlcokneidokfnaaSxMore
namespace Go.Sx
open Go Go.RowKit Go.Pl

/-- The cells from k on are replaced. -/
def putAt (cs : List Value) (k : Nat) (vs : List Value) : List Value := cs.take k ++ vs ++ cs.drop (k + vs.length)
section
variable {P : Program}
theorem run_storeBlk {g : Nat} {t : TypeId} : ∀ (vs : List Value) (w : World) (cs : List Value) (k i : Nat), Blk w g t cs.toArray → (∀ v ∈ vs, v.oneCell' = true) → k + i + vs.length ≤ cs.length →
    ∃ w', (storeCells ⟨g, k, none⟩ vs i).run P w = .ok () w' ∧ Blk w' g t (putAt cs (k + i) vs).toArray ∧ w.grownBy w' (some g)
  | [], w, cs, k, i, hB, _, hl => ⟨w, by simp [storeCells], by simpa [putAt] using hB, World.grownBy.refl w _⟩
  | v :: vs, w, cs, k, i, hB, h1, hl => by
    simp only [List.length_cons] at hl
    have hk : k + i < cs.length := by omega
    have hcell : w.cell? ⟨g, k + i, none⟩ = some cs[k + i] := hB.cell (by simp [hk])
    have hfz : w.frozen? ⟨g, k + i, none⟩ = false := by
      unfold Blk at hB
      simp [World.frozen?, hB]
    have hB' : Blk (w.setCell ⟨g, k + i, none⟩ v) g t (cs.set (k + i) v).toArray := by
      unfold Blk at hB ⊢
      have hlt : g < w.heap.size := (Array.getElem?_eq_some_iff.1 hB).1
      simp only [World.setCell]
      rw [Array.getElem?_modify]
      simp [hB]
    obtain ⟨w', hr, hb, hg⟩ := run_storeBlk vs (w.setCell ⟨g, k + i, none⟩ v) (cs.set (k + i) v) k (i + 1) hB' (fun u hu => h1 u (List.mem_cons_of_mem _ hu)) (by simp; omega)
    refine ⟨w', ?_, ?_, ?_⟩
    · simp only [storeCells, Sem.run_bind]
      have hadd : (⟨g, k, none⟩ : Addr).add i = ⟨g, k + i, none⟩ := by rw [Addr.add_lit]
      rw [hadd, run_store P _ _ _ _ (h1 v (List.mem_cons_self ..)), hcell]
      simp [hfz, hr]
    · have e : putAt (cs.set (k + i) v) (k + (i + 1)) vs = putAt cs (k + i) (v :: vs) := by
        simp only [putAt, List.length_cons]
        apply List.ext_getElem?
        intro j
        simp only [List.getElem?_append, List.length_take, List.length_set, List.length_append, List.length_cons, List.getElem?_take, List.getElem?_drop, List.getElem?_set, List.getElem?_cons]
        repeat' split
        all_goals (try omega)
        all_goals (first | rfl | (congr 1; omega) | simp_all | (exfalso; omega) | skip)
        all_goals (try omega)
      rw [e] at hb
      exact hb
    · have hgb : w.grownBy (w.setCell ⟨g, k + i, none⟩ v) (some g) :=
        ⟨rfl, rfl, rfl, by simp, fun j hj hne => Below.heap_setCell _ _ _ _ (fun e => hne (by rw [e]))⟩
      exact hgb.trans hg
end

section
variable {P : Program} {N : Nat} {l : Env} {w : World} {ops : Array Oper} {dr : Bool} {Q : Act → World → Prop} {π : List Nat} {i d : Nat} {v : Value} {op : Op} {ty : TypeId} {pos : String} {after : Array Edge} {g : Option (Nat × Bool)}
variable {x y c p : Operand} {u z : Int} {T T' : TypeId} {ats : Array TypeId}

/-- A variable of type T, zero. -/
def ZV (P : Program) (T : TypeId) (zs : List Value) : Prop := ∀ w, ∃ zv, (zeroValue T).run P w = .ok zv w ∧ zv.cells = zs.toArray
theorem AL {zs : List Value} (hi : ops[i]? = some ⟨some d, .alloc T, ty, pos, after, g⟩) (hw : Wt ops N l g) (hd : Nat.blt d N = true) (hz : ZV P T zs)
    (h : ∀ b w', Ext w w' → Blk w' b T zs.toArray → w.heap.size ≤ b → WR P N ops dr Q π ((d, .pointer (some ⟨b, 0, none⟩)) :: l) w') : WR P N ops dr Q (i :: π) l w := by
  obtain ⟨zv, h1, h2⟩ := hz w
  refine F (v := .pointer (some ⟨w.heap.size, 0, none⟩)) (w' := w.alloc (.cells zs.toArray T)) hi hw rfl hd (fun a ha => ?_) (fun _ _ => Ext.alloc _ _) (h _ _ (Ext.alloc _ _) (heap_alloc_new w _) (Nat.le_refl _))
  simp [execOp, Instr.alloc, newVar, newRow, h1, h2]
/-- A store into a block that is known whole. -/
theorem STB {b k n t : Nat} {cs vs cs' : List Value} {u0 : Value} (hi : ops[i]? = some ⟨none, .store T p x, ty, pos, after, g⟩) (hw : Wt ops N l g) (hp : ev l p = some (.pointer (some ⟨b, k, none⟩))) (hx : ev l x = some u0) (hc : u0.cells = vs.toArray)
    (hs : ∀ w, (sizeOf T).run P w = .ok n w) (htl : dr = true → isTail ops i = true) (hB : Blk w b t cs.toArray) (h1 : ∀ v ∈ vs, v.oneCell' = true) (hn : vs.length = n) (hl : Nat.ble (k + n) cs.length = true) (hcs : putAt cs k vs = cs')
    (h : ∀ w', w.grownBy w' (some b) → (∀ w0, w0.heap.size ≤ b → Ext w0 w → Ext w0 w') → Blk w' b t cs'.toArray → WR P N ops dr Q π l w') : WR P N ops dr Q (i :: π) l w := by
  subst hcs
  have hl' := Nat.le_of_ble_eq_true hl
  obtain ⟨w', hr, hb, hg⟩ := run_storeBlk (P := P) vs w cs k 0 hB h1 (by omega)
  refine F0 (w' := w') hi hw rfl (fun a ha => ?_) (fun hd ht => by rw [htl hd] at ht; cases ht) (h w' hg (fun w0 hB0 hE => ?_) hb)
  · simp [execOp, ha.eval hp, ha.eval hx, Instr.storeAt, Instr.sureAddr, storeVar, hs, hc, hn, hr]
  · exact Below.grown hE hg hE.size (fun j hj => by cases hj; exact hB0)
/-- A struct literal. -/
theorem bld {ps : List (Nat × Operand)} {us : List Value} {r : List Value} (hv : evs l (ps.map (·.2)) = some us) (hb : ∀ w, (Instr.build T ((ps.map (·.1)).zip us).toArray).run P w = .ok (.agg r.toArray) w) :
    Yl P N (.build T ps.toArray) ty l w (.agg r.toArray) := fun a ha w' _ o ho _ => by
  have hm := ha.evals hv
  have hps : ps.map (fun p => (p.1, a.eval p.2)) = (ps.map (·.1)).zip us := by
    rw [← hm, List.map_map]
    clear hv hm hb ho
    induction ps with
    | nil => rfl
    | cons q r ih => simp [ih]
  have h := hb w'
  rw [← hps] at h
  simp only [execOp, ho, List.map_toArray, Sem.run_bind]
  rw [h]
  rfl
/-- '==' on a struct type. -/
def EQS (P : Program) (T : TypeId) (n : Nat) : Prop := ∀ (xs ys : List Int), xs.length = n → ys.length = n → ∀ w, (Op.equal T (.agg (xs.map (Value.int .i64)).toArray) (.agg (ys.map (Value.int .i64)).toArray)).run P w = .ok (decide (xs = ys)) w
theorem eqlS {n : Nat} {xs ys : List Int} {a b : Value} (hx : ev l x = some a) (hy : ev l y = some b) (ha : a = .agg (xs.map (Value.int .i64)).toArray) (hb : b = .agg (ys.map (Value.int .i64)).toArray) (hE : EQS P T n) (hG : P.eqGuardType P.depth T = false)
    (h1 : xs.length = n := by rfl) (h2 : ys.length = n := by rfl) :
    Yl P N (.binOp .eql T x y T') ty l w (.bool (decide (xs = ys))) := by
  subst ha hb
  refine yl_bin hx hy (fun w => ?_) (fun w x y => ?_)
  · have h := hE xs ys h1 h2 w
    simp [binOp, h]
  · simp [eqGuard, hG]
theorem eqlB {a b : Bool} (hx : ev l x = some (.bool a)) (hy : ev l y = some (.bool b)) (hT : P.underlying T = some .bool) : Yl P N (.binOp .eql T x y T') ty l w (.bool (a == b)) :=
  yl_bin hx hy (fun w => by
    have hd : ∃ d, Op.maxDepth = d + 1 := ⟨Op.maxDepth - 1, rfl⟩
    obtain ⟨d, hd⟩ := hd
    simp [binOp, Op.equal, hd, Op.equalIn, run_underlying hT]) (fun _ _ _ => eqGuard_bool)
theorem neqB {a b : Bool} (hx : ev l x = some (.bool a)) (hy : ev l y = some (.bool b)) (hT : P.underlying T = some .bool) : Yl P N (.binOp .neq T x y T') ty l w (.bool (a != b)) :=
  yl_bin hx hy (fun w => by
    have hd : ∃ d, Op.maxDepth = d + 1 := ⟨Op.maxDepth - 1, rfl⟩
    obtain ⟨d, hd⟩ := hd
    simp [binOp, Op.equal, hd, Op.equalIn, run_underlying hT]; cases a <;> cases b <;> rfl) (fun _ _ _ => eqGuard_bool)
theorem maxI (hx : ev l x = some (.int .i64 u)) (hy : ev l y = some (.int .i64 z)) : Yl P N (.call ⟨.builtin .max, #[x, y], ats⟩) ty l w (.int .i64 (max u z)) := fun a ha w' _ o ho _ => by
  have e : (if u < z then z else u) = max u z := by rw [Int.max_def]; split <;> split <;> omega
  simp [execOp, ho, ha.eval hx, ha.eval hy, resolve, invoke, builtin, Builtin.max_, Builtin.max2, e]

/-- A result that lies in a variable of a struct type, and one in a slot. -/
theorem post_retC2 {fn : Func} {t s b : Nat} {n : Nat} {tb : TypeId} {cs : List Value} {v : Value} {R : Ending → World → Prop} (hr : fn.results = #[.cell t T, .tmp s]) (hp : lk l t = some (.pointer (some ⟨b, 0, none⟩))) (hv : lk l s = some v)
    (hA : AG P T n) (hB : Blk w b tb cs.toArray) (hn : cs.length = n) (hR : R (.returned (.tuple #[.agg cs.toArray, v])) w) :
    Post N (bodyPost P fn R) .ret l w := fun a ha => by
  refine ⟨ha.defers, .tuple #[.agg cs.toArray, v], ?_, hR⟩
  have h1 := ha.slots _ _ hp
  have h2 := ha.slots _ _ hv
  have hl := run_loadCells_list (P := P) w ⟨b, 0, none⟩ cs (fun j v hv => by rw [Addr.add_lit]; exact hB.cell (by simpa using hv))
  rw [hn] at hl
  simp [results, hr, h1, h2, asAddr, loadVar, hA.agg w, hA.size w, hl]
end
end Go.Sx
