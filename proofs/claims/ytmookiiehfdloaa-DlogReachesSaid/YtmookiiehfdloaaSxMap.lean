/-
  The walking framework: maps of ints that the call has made.
-/
import Derived.Test.YtmookiiehfdloaaSxStruct
import Derived.Maps.OwnSet
namespace Go.Sx
open Go Go.RowKit Go.Pl Go.MapKept Go.ChangeMaps

/-- What a list of entries holds at a key: the first entry counts. -/
def mget : List (Int × Int) → Int → Option Int
  | [], _ => none
  | z :: zs, k => if k = z.1 then some z.2 else mget zs k
theorem mget_push {zs : List (Int × Int)} {k a b : Int} : mget (zs ++ [(a, b)]) k = (mget zs k).or (if k = a then some b else none) := by
  induction zs with
  | nil => by_cases h : k = a <;> simp [mget, h]
  | cons z zs ih =>
    simp only [List.cons_append, mget]
    split
    · simp
    · exact ih
def mE (z : Int × Int) : Value × Value := (.int .i64 z.1, .int .i64 z.2)
/-- Block b is a map of ints with these entries. -/
def MapI (w : World) (b : Nat) (zs : List (Int × Int)) : Prop :=
  ∃ es clock, w.heap[b]? = some (.map es clock) ∧ es.toList.map (fun e => (e.key, e.val)) = zs.map mE
theorem MapI.ext {w w' : World} {b : Nat} {zs : List (Int × Int)} (h : MapI w b zs) (hE : Ext w w') : MapI w' b zs := by
  obtain ⟨es, c, h1, h2⟩ := h
  have hlt : b < w.heap.size := (Array.getElem?_eq_some_iff.1 h1).1
  exact ⟨es, c, (Below.block hE b hlt).trans h1, h2⟩
theorem findNow_ints (k : Int) : ∀ (es : List MapEntry) (zs : List (Int × Int)) (i : Nat), es.map (fun e => (e.key, e.val)) = zs.map mE →
    ∃ o : Option (Nat × Value), Instr.findNow (.int .i64) (.int .i64 k) es i = some o ∧ o.map (·.2) = (mget zs k).map (Value.int .i64)
  | [], zs, i, h => by
    cases zs with
    | nil => exact ⟨none, rfl, rfl⟩
    | cons z zs => simp at h
  | e :: es, zs, i, h => by
    cases zs with
    | nil => simp at h
    | cons z zs =>
      simp only [List.map_cons, List.cons.injEq, mE, Prod.mk.injEq] at h
      obtain ⟨⟨h1, h2⟩, h3⟩ := h
      by_cases hk : k = z.1
      · refine ⟨some (i, e.val), ?_, ?_⟩
        · simp [Instr.findNow, Instr.sameNow, h1, hk]
        · simp [mget, hk, h2]
      · obtain ⟨o, h4, h5⟩ := findNow_ints k es zs (i + 1) h3
        refine ⟨o, ?_, ?_⟩
        · have hb : (k == z.1) = false := by simp [hk]
          simp [Instr.findNow, Instr.sameNow, h1, hb, h4]
        · simp [mget, hk, h5]
section
variable {P : Program} {N : Nat} {l : Env} {w : World} {ops : Array Oper} {dr : Bool} {Q : Act → World → Prop} {π : List Nat} {i d : Nat} {v : Value} {op : Op} {ty : TypeId} {pos : String} {after : Array Edge} {g : Option (Nat × Bool)}
variable {x y c p : Operand} {T : TypeId}
/-- T is a map of ints. -/
structure MapT (P : Program) (T : TypeId) : Prop where
  u : ∃ K E, P.underlying T = some (.map K E) ∧ P.underlying K = some (.int .i64) ∧ ∀ w, (zeroValue E).run P w = .ok (.int .i64 0) w
theorem MM {n : Int} (hi : ops[i]? = some ⟨some d, .makeMap T (some x), ty, pos, after, g⟩) (hw : Wt ops N l g) (hd : Nat.blt d N = true) (hx : ev l x = some (.int .i64 n)) (hT : MapT P T)
    (h : ∀ b w', Ext w w' → MapI w' b [] → w.heap.size ≤ b → WR P N ops dr Q π ((d, .map (some b)) :: l) w') : WR P N ops dr Q (i :: π) l w := by
  obtain ⟨K, E, hu, -, -⟩ := hT.u
  refine F (v := .map (some w.heap.size)) (w' := w.alloc (.map #[] 0)) hi hw rfl hd (fun a ha => ?_) (fun _ _ => Ext.alloc _ _) (h _ _ (Ext.alloc _ _) ⟨#[], 0, heap_alloc_new w _, rfl⟩ (Nat.le_refl _))
  simp [execOp, ha.eval hx, Instr.makeMap, run_underlying hu, asInt, asIntOf, Result.andThen]
theorem lkM {b : Nat} {zs : List (Int × Int)} {k : Int} (hx : ev l x = some (.map (some b))) (hy : ev l y = some (.int .i64 k)) (hT : MapT P T) (hM : MapI w b zs) :
    Yl P N (.lookup T x y true) ty l w (.tuple #[.int .i64 ((mget zs k).getD 0), .bool (mget zs k).isSome]) := fun a ha w' hE' oo ho _ => by
  obtain ⟨K, E, hu, hk, hz⟩ := hT.u
  obtain ⟨es, clock, hb, he⟩ := hM.ext hE'
  obtain ⟨o, h1, h2⟩ := findNow_ints k es.toList zs 0 he
  have hf := run_findKey (P := P) (w := w') hk h1
  have hc : (Instr.checkKey es.isEmpty 10000 K (.int .i64 k)).run P w' = .ok () w' := run_checkKey hk (show IsKey (.int .i64) (.int .i64 k) from rfl) es.isEmpty 9999
  cases o with
  | none =>
    cases hm : mget zs k with
    | some u => simp [hm] at h2
    | none => simp [execOp, ho, ha.eval hx, ha.eval hy, Instr.lookup, run_underlying hu, hz, Result.andThen, MapKept.run_getObj_map hb, hc, hf]
  | some o =>
    cases hm : mget zs k with
    | none => simp [hm] at h2
    | some u =>
      simp [hm] at h2
      simp [execOp, ho, ha.eval hx, ha.eval hy, Instr.lookup, run_underlying hu, h2, Result.andThen, MapKept.run_getObj_map hb, hc, hf]
theorem MU {b : Nat} {zs : List (Int × Int)} {k z : Int} (hi : ops[i]? = some ⟨none, .mapUpdate T p x y, ty, pos, after, g⟩) (hw : Wt ops N l g) (hp : ev l p = some (.map (some b))) (hx : ev l x = some (.int .i64 k)) (hy : ev l y = some (.int .i64 z)) (hT : MapT P T)
    (htl : dr = true → isTail ops i = true) (hM : MapI w b zs) (hn : mget zs k = none)
    (h : ∀ w', w.grownBy w' (some b) → (∀ w0, w0.heap.size ≤ b → Ext w0 w → Ext w0 w') → MapI w' b (zs ++ [(k, z)]) → WR P N ops dr Q π l w') : WR P N ops dr Q (i :: π) l w := by
  obtain ⟨K, E, hu, hk, hz⟩ := hT.u
  obtain ⟨es, clock, hb, he⟩ := hM
  obtain ⟨o, h1, h2⟩ := findNow_ints k es.toList zs 0 he
  have ho : o = none := by cases o with
    | none => rfl
    | some o => simp [hn] at h2
  subst ho
  have hf := run_findKey (P := P) (w := w) hk h1
  have hc : (Instr.checkKey false 10000 K (.int .i64 k)).run P w = .ok () w := run_checkKey hk (show IsKey (.int .i64) (.int .i64 k) from rfl) false 9999
  have hg : w.grownBy (setBlock w b (.map (es.push { key := .int .i64 k, val := .int .i64 z, born := clock }) (clock + 1))) (some b) :=
    World.mapTurned.grown ⟨es, clock, _, _, hb, rfl⟩
  refine F0 (w' := setBlock w b (.map (es.push { key := .int .i64 k, val := .int .i64 z, born := clock }) (clock + 1))) hi hw rfl (fun a ha => ?_) (fun hd ht => by rw [htl hd] at ht; cases ht) (h _ hg (fun w0 hB0 hE => ?_) ⟨_, _, (heap_set hb).1, by simp [he, mE]⟩)
  · simp [execOp, ha.eval hp, ha.eval hx, ha.eval hy, Instr.mapUpdate, Sem.run_bind, run_underlying hu, Result.andThen, MapKept.run_getObj_map hb, hc, hf, run_setObj_map _ hb, setBlock]
  · exact Below.grown hE hg hE.size (fun j hj => by cases hj; exact hB0)
end
end Go.Sx
