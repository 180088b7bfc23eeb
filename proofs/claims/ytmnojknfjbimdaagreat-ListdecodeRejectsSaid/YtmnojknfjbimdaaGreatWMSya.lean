/-
  The walking framework: 'append(s, make([]int, k)...)' onto a slice of the call's own. The walking framework: regions that draw their order and in which an operation writes into blocks X that were there before: what is read meanwhile lies outside of X. The walking framework: ranges over functions. Code within a round, and code behind a loop (where a mark stands among the deferred calls), is walked by 'wi_..' as by 'wc_..' elsewhere.
-/
import Derived.Test.YtmnojknfjbimdaaGreatWMSxa
import Derived.Lib.AppendZerosOnto
import Derived.RangeFuncWrites
import Derived.RangeFuncRecord
namespace Go.Sx
open Go Go.RowKit Go.Pl
theorem zeroCells_ints (k : Nat) : (Builtin.zeroCells (Value.int .i64 0).cells k).toList = List.replicate k (Value.int .i64 0) := by
  have h : ∀ (l : List Nat), (l.map fun i => (#[Value.int .i64 0] : Array Value)[i % 1]!) = List.replicate l.length (Value.int .i64 0) := by
    intro l
    induction l with
    | nil => rfl
    | cons a l ih =>
      rw [List.map_cons, ih, Nat.mod_one]
      rfl
  have e : (Builtin.zeroCells (Value.int .i64 0).cells k).toList = (List.range k).map fun i => (#[Value.int .i64 0] : Array Value)[i % 1]! := by
    simp [Builtin.zeroCells, Value.cells]
  rw [e, h, List.length_range]
section
variable {P : Program}
theorem run_append_zeros_own (w : World) (base : Nat) (t tn ty e : TypeId) (i : TypeInfo) (ht : P.underlying t = some (.slice e)) (htn : P.underlying tn = some (.int .i64)) (hi : P.info? e = some i) (hz : i.zero = some (.int .i64 0))
    (hsize : i.size = 1) (hby : i.bytes = 8) (v : Value) (n : Nat) (xs : List Value) (hown : w.ownsRow base e 1 v n xs) (k : Nat) (h63 : n + k ≤ 17592186044416) (hbase : base ≤ w.heap.size) :
    ∃ v' w', (Builtin.append_ #[t, tn] ty #[v, .int .i64 k]).run P w = .ok v' w' ∧ w'.ownsRow base e 1 v' (n + k) (xs ++ List.replicate k (.int .i64 0)) ∧ w.grownBy w' v.ownBlock ∧ (v'.ownBlock = v.ownBlock ∨ v'.ownBlock = some w.heap.size) := by
  have hw : IntKind.i64.wrap (k : Int) = k := by rw [IntKind.wrap_i64]; omega
  have hneg : ¬ ((k : Int) < 0) := by omega
  have h48i : ¬ (281474976710656 < (k : Int) * ((i.bytes : Nat) : Int)) := by rw [hby]; omega
  have hxl : xs.length = n := by simpa using hown.1
  have hlen : (xs ++ List.replicate k (Value.int .i64 0)).length = (n + k) * 1 := by rw [List.length_append, List.length_replicate, hxl, Nat.mul_one]
  have grown : ∀ (old : Nat), old < n + k → ∀ (row : Option Nat),
      (w.drew.alloc (.cells (xs.toArray ++ Builtin.zeroCells (Value.int .i64 0).cells k ++ Builtin.zeroCells (Value.int .i64 0).cells (grownCap w (n + k) old e - (n + k))) e)).ownsRow base e 1
        (.slice (some ⟨w.heap.size, 0, none⟩) (n + k) (grownCap w (n + k) old e)) (n + k) (xs ++ List.replicate k (.int .i64 0)) ∧
      w.grownBy (w.drew.alloc (.cells (xs.toArray ++ Builtin.zeroCells (Value.int .i64 0).cells k ++ Builtin.zeroCells (Value.int .i64 0).cells (grownCap w (n + k) old e - (n + k))) e)) row := by
    intro old ho row
    have hge := grownCap_ge w (n + k) old e
    have hcm : grownCap w (n + k) old e ≤ maxLen := grownCap_le_maxLen w (n + k) old e (by simp only [maxLen]; omega)
    refine ⟨⟨hlen, .inr ⟨w.heap.size, _, _, rfl, hbase, heap_alloc_new w.drew _, hge, hcm, ?_, ?_⟩⟩, ⟨rfl, rfl, rfl, by simp, fun q hq _ => Below.heap_alloc w.drew _ q hq⟩⟩
    · have e1 : ∀ m, (Builtin.zeroCells (Value.int .i64 0).cells m).size = m := fun m => by rw [size_zeroCells]; simp [Value.cells]
      simp only [Array.size_append, List.size_toArray, e1, hxl]
      omega
    · rw [Array.toList_append, Array.toList_append, zeroCells_ints, ← hlen]
      exact List.take_left
  have grow : ∀ (bs : Option Addr) (sc : Nat), v = .slice bs n sc → sc < n + k → 0 < k → (Builtin.firstCells i.size n (.slice bs n sc)).run P w.drew = .ok xs.toArray w.drew →
      ∃ v' w', (Builtin.append_ #[t, tn] ty #[v, .int .i64 k]).run P w = .ok v' w' ∧ w'.ownsRow base e 1 v' (n + k) (xs ++ List.replicate k (.int .i64 0)) ∧ w.grownBy w' v.ownBlock ∧ (v'.ownBlock = v.ownBlock ∨ v'.ownBlock = some w.heap.size) := by
    rintro bs sc rfl hg h0 hold
    have hr := Lib.run_append_grow_zeros (P := P) w t tn ty e i (.int .i64 0) .i64 .i64 ht htn hi hz bs n sc xs hold k h0 (by omega) hg (by omega) (by omega) (growslice_fits hg (by rw [hby]; omega))
    have hgr := grown sc hg (Value.ownBlock (.slice bs n sc))
    exact ⟨_, _, hr, hgr.1, hgr.2, .inr rfl⟩
  have none0 : k = 0 → (∃ bs sc, v = .slice bs n sc ∧ n ≤ sc) → ∃ v' w', (Builtin.append_ #[t, tn] ty #[v, .int .i64 k]).run P w = .ok v' w' ∧ w'.ownsRow base e 1 v' (n + k) (xs ++ List.replicate k (.int .i64 0)) ∧ w.grownBy w' v.ownBlock ∧ (v'.ownBlock = v.ownBlock ∨ v'.ownBlock = some w.heap.size) := by
    rintro rfl ⟨bs, sc, rfl, hle⟩
    refine ⟨.slice bs n sc, w, ?_, by simpa using hown, World.grownBy.refl w _, .inl rfl⟩
    have hw0 : IntKind.i64.wrap (0 : Int) = 0 := by rw [IntKind.wrap_i64]; omega
    cases bs <;> simp [Builtin.append_, run_underlying ht, run_underlying htn, sizeOf, typeInfo, hi, asInt, asIntOf, hw0, hle, storeCells]
  rcases hown.2 with ⟨rfl, rfl⟩ | ⟨g, cap, cur, rfl, hbg, hg, hnc, hcm, hcs, htake⟩
  · rcases Nat.eq_zero_or_pos k with h0 | h0
    · exact none0 h0 ⟨none, 0, rfl, Nat.le_refl _⟩
    · refine grow none 0 rfl (by omega) h0 ?_
      obtain rfl : xs = [] := List.eq_nil_of_length_eq_zero hxl
      simp [Builtin.firstCells]
  · rcases Nat.eq_zero_or_pos k with h0 | h0
    · exact none0 h0 ⟨_, cap, rfl, hnc⟩
    · by_cases hroom : n + k ≤ cap
      · have hfit : n + k ≤ cur.size := by omega
        have hst := run_storeCells_at P g n e (List.replicate k (Value.int .i64 0)) 0 cur w hg (by simpa using hfit) (fun u hu => by rw [List.eq_of_mem_replicate hu]; rfl)
        simp only [Nat.add_zero] at hst
        have hns : ¬ (k = 0) := by omega
        refine ⟨.slice (some ⟨g, 0, none⟩) (n + k) cap, w.setRow g (cur.toList.take n ++ List.replicate k (Value.int .i64 0) ++ cur.toList.drop (n + k)).toArray, ?_, ⟨hlen, .inr ⟨g, cap, _, rfl, hbg, setRow_heap w g cur _ e _ hg, hroom, hcm, ?_, ?_⟩⟩, ⟨rfl, rfl, rfl, by simp, fun k _ hk => setRow_other w g k _ (fun e => hk (by simp [Value.ownBlock, e]))⟩, .inl rfl⟩
        · have hzl := zeroCells_ints k
          simp only [Value.cells] at hzl
          simp [Builtin.append_, run_underlying ht, run_underlying htn, sizeOf, typeInfo, zeroValue, hi, hz, asInt, asIntOf, hw, hneg, h48i, hroom, hsize, hns, Addr.add_lit, hzl, hst, Value.cells]
        · simp only [List.size_toArray, List.length_append, List.length_take, List.length_drop, Array.length_toList, List.length_replicate]
          omega
        · rw [Nat.mul_one] at htake
          rw [htake, ← hlen]
          exact List.take_left
      · refine grow (some ⟨g, 0, none⟩) cap rfl (by omega) h0 ?_
        exact run_firstCells_some (P := P) w.drew i.size n ⟨g, 0, none⟩ n cap xs (by rw [hsize, hxl, Nat.mul_one]) (by simpa using hown.cells (g := g) rfl)
end
section
variable {P : Program} {N : Nat} {l : Env} {w : World} {ops : Array Oper} {dr : Bool} {Q : Act → World → Prop} {π : List Nat} {i d : Nat} {v : Value} {op : Op} {ty : TypeId} {pos : String} {after : Array Edge} {g : Option (Nat × Bool)}
variable {x y c p : Operand} {u : Int} {T T' : TypeId}
end
end Go.Sx


namespace Go.Sx
open Go Go.RowKit Go.Pl
section
variable (X : List Nat) (P : Program) (ops : Array Oper)
def RLX (Q : Act → World → Prop) : List Nat → Act → World → Prop
  | [], a, w => Q a w
  | i :: r, a, w => ∃ o, ops[i]? = some o ∧
    if Region.wanted o (yielded ops a.tmps) then
      (isA o.op = true ∧ ∃ v, (∀ w', (isM o.op = true ∨ Gr X w w') → (execOp a.eval o).run P w' = .ok (.value v) w') ∧ RLX Q r (a.put o.dst v) w) ∨
      (isA o.op = false ∧ o.wp P a w (fun a' w' => (∃ v, a' = a.put o.dst v) ∧ (isTail ops i = false → Gr X w w') ∧ RLX Q r a' w') (fun _ _ _ => False))
    else RLX Q r (a.put o.dst undef) w
def wpX (Q : Act → World → Prop) : Nat → Array Bool → Act → World → Prop
  | 0, listed, a, w => Region.ready .any ops listed = [] ∧ Q a w
  | n + 1, listed, a, w => (Region.ready .any ops listed = [] → Q a w) ∧
    ∀ i ∈ Region.ready .any ops listed, opE P ops i (fun a' w' => (isTail ops i = false → Gr X w w') ∧ wpX Q n (listed.setIfInBounds i true) a' w') a w
end
section
variable {X : List Nat} {P : Program} {ops : Array Oper}
theorem wpAny_of_wpX {Q : Act → World → Prop} {Q' : Exit → Act → World → Prop} (hQ : ∀ a w, Q a w → Q' .normal a w) : ∀ (n : Nat) (listed : Array Bool) (a : Act) (w : World),
    wpX X P ops Q n listed a w → wpAny P .any ops Q' n listed a w
  | 0, _, _, _, h => ⟨h.1, hQ _ _ h.2⟩
  | n + 1, _, _, _, h => ⟨fun h0 => hQ _ _ (h.1 h0), fun i hi => wpOp_of_opE (fun a' w' hh => wpAny_of_wpX hQ n _ a' w' hh.2) (h.2 i hi)⟩
def YieldsX (X : List Nat) (P : Program) (ops : Array Oper) (o : Oper) (v : Value) (a : Act) (w : World) : Prop :=
  (Region.wanted o (yielded ops a.tmps) = true ∧ ∀ w', (isM o.op = true ∨ Gr X w w') → (execOp a.eval o).run P w' = .ok (.value v) w') ∨
  (Region.wanted o (yielded ops a.tmps) = false ∧ v = undef)
theorem YieldsX.ext {o : Oper} {v : Value} {a : Act} {w w' : World} (h : YieldsX X P ops o v a w) (hw : Gr X w w') : YieldsX X P ops o v a w' := by
  rcases h with ⟨h1, h2⟩ | h
  · exact .inl ⟨h1, fun w'' hE => h2 _ (hE.imp id hw.trans)⟩
  · exact .inr h
theorem YieldsX.any {o : Oper} {v : Value} {a : Act} {w w' : World} (h : YieldsX X P ops o v a w) (hM : isM o.op = true) : YieldsX X P ops o v a w' := by
  rcases h with ⟨h1, h2⟩ | h
  · exact .inl ⟨h1, fun w'' _ => h2 _ (.inl hM)⟩
  · exact .inr h
theorem YieldsX.opE {i : Nat} {o : Oper} {v : Value} {a : Act} {w : World} (hi : ops[i]? = some o) (hy : YieldsX X P ops o v a w) {K : Act → World → Prop} (h : K (a.put o.dst v) w) : opE P ops i K a w := by
  unfold Go.Sx.opE
  simp only [hi]
  rcases hy with ⟨hw, hv⟩ | ⟨hw, rfl⟩
  · rw [if_pos hw]
    unfold Oper.wp
    rw [hv w (.inr (Gr.refl X w))]
    exact h
  · rw [if_neg (by simp [hw])]; exact h
theorem YieldsX.of_same {o : Oper} {v : Value} {a a' : Act} {w : World} (hy : YieldsX X P ops o v a w) (he : execOp a'.eval o = execOp a.eval o)
    (hw : Region.wanted o (yielded ops a'.tmps) = Region.wanted o (yielded ops a.tmps)) : YieldsX X P ops o v a' w := by
  unfold YieldsX at *
  rw [he, hw]
  exact hy
theorem opX_put {j : Nat} {oi oj : Oper} {v : Value} (hj : ops[j]? = some oj) (hap : oi.apart ops oj = true)
    (hsi : ∀ cs b, oi.op ≠ .select cs b) (hsj : ∀ cs b, oj.op ≠ .select cs b) {K : Act → World → Prop} {a : Act} {w : World}
    (hy : YieldsX X P ops oi v a w) (h : opE P ops j K (a.put oi.dst v) w) :
    opE P ops j (fun a' w' => YieldsX X P ops oi v a' w ∧ K (a'.put oi.dst v) w') a w := by
  obtain ⟨h1, h2, h3⟩ := Oper.apart_spec hap
  have keep : ∀ (a : Act), YieldsX X P ops oi v a w → ∀ u, YieldsX X P ops oi v (a.put oj.dst u) w := fun a hy u =>
    hy.of_same (execOp_put oi hsi a oj.dst u h3) (wanted_put oi a oj.dst u h3)
  have keepD : ∀ d, YieldsX X P ops oi v { a with defers := d :: a.defers } w := fun d => hy.of_same rfl rfl
  unfold opE at *
  simp only [hj] at *
  rw [wanted_put oj a oi.dst v h1] at h
  split
  · rename_i hw
    rw [if_pos hw] at h
    unfold Oper.wp at *
    rw [execOp_put oj hsj a oi.dst v h1] at h
    generalize (execOp a.eval oj).run P w = r at *
    cases r with
    | ok n w' =>
      cases n <;> simp only [Oper.upon] at h ⊢
      case value u => exact ⟨keep a hy u, by rw [← Act.put_comm a v u h2]; exact h⟩
      case skip => exact ⟨keep a hy _, by rw [← Act.put_comm a v undef h2]; exact h⟩
      case defer d =>
        refine ⟨keep _ (keepD d) _, ?_⟩
        rw [← Act.put_comm _ v undef h2, ← Act.put_defers]
        exact h
      case enter f args =>
        refine Calls.mono h fun e w'' he => ?_
        cases e with
        | returned u => exact ⟨keep a hy u, by rw [← Act.put_comm a v u h2]; exact he⟩
        | panicked c => exact he
        | outgrown => exact he
      case row row args => exact Rows.mono h fun u w'' he => ⟨keep a hy u, by rw [← Act.put_comm a v u h2]; exact he⟩
    | halt x w' =>
      cases x <;> simp only [Oper.upon] at h ⊢
  · rename_i hw
    rw [if_neg hw] at h
    exact ⟨keep a hy _, by rw [← Act.put_comm a v undef h2]; exact h⟩
theorem wpX_first {Q : Act → World → Prop} {i : Nat} {oi : Oper} {v : Value} (hi : ops[i]? = some oi) (hsel : ∀ (j : Nat) (o : Oper) cs b, ops[j]? = some o → o.op ≠ .select cs b) :
    ∀ (fuel : Nat) (listed : Array Bool) (a : Act) (w : World), Closed ops listed →
      (∀ j oj, ops[j]? = some oj → j ≠ i → listed.getD j true = false → (∀ e ∈ oj.after, Region.binds .any e = true → e.on ≠ i) → oi.apart ops oj = true) →
      i ∈ Region.ready .any ops listed → YieldsX X P ops oi v a w →
      wpX X P ops Q fuel (listed.setIfInBounds i true) (a.put oi.dst v) w → wpX X P ops Q (fuel + 1) listed a w := by
  intro fuel
  induction fuel with
  | zero =>
    intro listed a w _ _ hr hy H
    refine ⟨fun h => (by rw [h] at hr; cases hr), fun j hj => ?_⟩
    by_cases hji : j = i
    · subst hji; exact hy.opE hi ⟨fun _ => Gr.refl X w, H⟩
    · have := ready_mono hj hji
      rw [H.1] at this
      cases this
  | succ fuel ih =>
    intro listed a w hcl hfree hr hy H
    refine ⟨fun h => (by rw [h] at hr; cases hr), fun j hj => ?_⟩
    by_cases hji : j = i
    · subst hji; exact hy.opE hi ⟨fun _ => Gr.refl X w, H⟩
    · have h1 := H.2 j (ready_mono hj hji)
      obtain ⟨hjun, oj, hoj, hall⟩ := mem_ready.1 hj
      have hiun := (mem_ready.1 hr).1
      have hnot : ∀ e ∈ oj.after, Region.binds .any e = true → e.on ≠ i := fun e he hb heq => by
        have h1 := hall e he hb
        have h0 := (mem_ready.1 hr).1
        rw [heq] at h1
        rcases Nat.lt_or_ge i listed.size with h' | h'
        · simp [h'] at h0 h1; rw [h0] at h1; cases h1
        · simp [Array.getElem?_eq_none h'] at h1
      have h2 := opX_put hoj (hfree j oj hoj hji hjun hnot) (fun cs b => hsel i oi cs b hi) (fun cs b => hsel j oj cs b hoj) hy h1
      have hfree' : ∀ k ok, ops[k]? = some ok → k ≠ i → (listed.setIfInBounds j true).getD k true = false →
          (∀ e ∈ ok.after, Region.binds .any e = true → e.on ≠ i) → oi.apart ops ok = true := fun k ok hk hki hun hno => by
        refine hfree k ok hk hki ?_ hno
        by_cases hjk : j = k
        · subst hjk; exact hjun
        · rw [getD_set_ne true hjk] at hun; exact hun
      refine opE_mono (fun a' w' h3 => ?_) h2
      obtain ⟨hya, hE, hrest⟩ := h3
      have hyw : YieldsX X P ops oi v a' w' := by
        by_cases hM : isM oi.op = true
        · exact hya.any hM
        · exact hya.ext (hE (tail_spec hj hi (Ne.symm hji) hiun hr hcl hM))
      refine ⟨hE, ih (listed.setIfInBounds j true) a' w' (hcl.set hj) hfree' (ready_mono hr (Ne.symm hji)) hyw ?_⟩
      rw [Array.setIfInBounds_comm _ _ hji]
      exact hrest
theorem wpX_of_RLX {Q : Act → World → Prop} (hs : Region.noSelect ops = true) : ∀ (l : List Nat) (listed : Array Bool) (a : Act) (w : World), Closed ops listed →
    okFrom ops l listed = true → RLX X P ops Q l a w → wpX X P ops Q l.length listed a w
  | [], listed, a, w, _, hB, h => ⟨by simpa [okFrom] using hB, h⟩
  | i :: r, listed, a, w, hcl, hB, h => by
    obtain ⟨o, ho, h⟩ := h
    simp only [okFrom, Bool.and_eq_true, ho] at hB
    obtain ⟨⟨hr, hk⟩, hrest⟩ := hB
    have hr' : i ∈ Region.ready .any ops listed := by simpa using hr
    have first : ∀ v, isA o.op = true → YieldsX X P ops o v a w → RLX X P ops Q r (a.put o.dst v) w → wpX X P ops Q (r.length + 1) listed a w := fun v hA hy hq => by
      rw [if_pos hA] at hk
      exact wpX_first ho (Region.noSelect_spec hs) r.length listed a w hcl (Region.free_spec ho hk) hr' hy (wpX_of_RLX hs r _ _ _ (hcl.set hr') hrest hq)
    by_cases hA : isA o.op = true
    · by_cases hw : Region.wanted o (yielded ops a.tmps) = true
      · rw [if_pos hw] at h
        rcases h with ⟨_, v, hv, hq⟩ | ⟨hn, _⟩
        · exact first v hA (.inl ⟨hw, hv⟩) hq
        · rw [hn] at hA; cases hA
      · rw [if_neg hw] at h
        exact first undef hA (.inr ⟨by simpa using hw, rfl⟩) h
    · rw [if_neg hA] at hk
      refine ⟨fun h0 => (by rw [h0] at hr'; cases hr'), fun j hj => ?_⟩
      have hji : j = i := by
        have := List.all_eq_true.1 hk j hj
        simpa using this
      subst hji
      unfold opE
      simp only [ho]
      split
      · rename_i hw
        rw [if_pos hw] at h
        rcases h with ⟨h1, _⟩ | ⟨_, hq⟩
        · exact absurd h1 hA
        · exact wp_mono2 (fun a' w' hh => ⟨hh.2.1, wpX_of_RLX hs r _ _ _ (hcl.set hr') hrest hh.2.2⟩) hq
      · rename_i hw
        rw [if_neg hw] at h
        exact ⟨fun _ => Gr.refl X w, wpX_of_RLX hs r _ _ _ (hcl.set hr') hrest h⟩
end
section
variable (X : List Nat) (P : Program) (N : Nat)
def WX (ops : Array Oper) (Q : Act → World → Prop) (π : List Nat) (l : Env) (w : World) : Prop := ∀ a, At N a l → RLX X P ops Q π a w
end
section
variable {X : List Nat} {P : Program} {N : Nat} {Q : Exit → Act → World → Prop} {l : Env} {w : World}
theorem wc_drawX {id : Nat} {ops : Array Oper} (X : List Nat) (hm : P.follows .mixedOrders = true) (π : List Nat) (hB : okOrd ops π = true) (h : ∀ w', Ext w w' → w' = w.drew → WX X P N ops (Q .normal) π l w') : WC P N (.region id ops true) Q l w := by
  intro a ha
  simp only [okOrd, Bool.and_eq_true, beq_iff_eq] at hB
  refine wp_region_any hm ?_
  have := wpX_of_RLX (X := X) (P := P) (Q := Q .normal) hB.2.1 π (Array.replicate ops.size false) a w.drew Closed.none hB.2.2 (h w.drew (Ext.drew w) rfl a ha)
  rw [hB.1] at this
  exact wpAny_of_wpX (fun _ _ h => h) _ _ _ _ this
theorem wx_nil {ops : Array Oper} {Q : Exit → Act → World → Prop} (h : Post N Q .normal l w) : WX X P N ops (Q .normal) [] l w := h
end
section
variable {X : List Nat} {P : Program} {N : Nat} {l : Env} {w : World} {ops : Array Oper} {Q : Act → World → Prop} {π : List Nat} {i d : Nat} {v : Value} {op : Op} {ty : TypeId} {pos : String} {after : Array Edge} {g : Option (Nat × Bool)}
variable {x y c p : Operand} {u z : Int} {T T' : TypeId}
def YX (X : List Nat) (P : Program) (N : Nat) (op : Op) (ty : TypeId) (l : Env) (w : World) (v : Value) : Prop :=
  ∀ a, At N a l → ∀ w', (isM op = true ∨ Gr X w w') → ∀ o : Oper, o.op = op → o.type = ty → (execOp a.eval o).run P w' = .ok (.value v) w'
theorem ym (h : Yl P N op ty l w v) (hM : isM op = true) : YX X P N op ty l w v := fun a ha w' _ o ho hty => h a ha w' (.inl hM) o ho hty
theorem yB {g k : Nat} {t : TypeId} {cs : Array Value} (hp : ev l p = some (.pointer (some ⟨g, k, none⟩))) (hna : NA P T) (hB : Blk w g t cs) (hX : g ∉ X) (hc : cs[k]? = some v := by rfl) : YX X P N (.load T p) ty l w v := fun a ha w' hE o ho _ => by
  replace hE := hE.resolve_left (by simp [isM])
  have h := (hB.gr hE hX).cell hc
  simp [execOp, ho, ha.eval hp, Instr.loadAt, Instr.sureAddr, loadVar, hna w', h]
theorem yA {g k n : Nat} {t : TypeId} {cs : List Value} (hp : ev l p = some (.pointer (some ⟨g, k, none⟩))) (hA : AG P T n) (hB : Blk w g t cs.toArray) (hX : g ∉ X) (hn : Nat.ble (k + n) cs.length = true := by rfl) : YX X P N (.load T p) ty l w (.agg ((cs.drop k).take n).toArray) := fun a ha w' hE o ho hty => by
  replace hE := hE.resolve_left (by simp [isM])
  exact ldA (l := l) (w := w') (T := T) (ty := ty) hp hA (hB.gr hE hX) hn (Ext.refl w') a ha w' (.inr (Ext.refl w')) o ho hty
theorem VX (hi : ops[i]? = some ⟨some d, op, ty, pos, after, g⟩) (hw : Wt ops N l g) (hA : isA op = true) (hd : Nat.blt d N = true) (hy : YX X P N op ty l w v)
    (h : WX X P N ops Q π ((d, v) :: l) w) : WX X P N ops Q (i :: π) l w := fun a ha => by
  refine ⟨_, hi, ?_⟩
  rw [if_pos (hw a ha _ rfl)]
  exact .inl ⟨hA, v, fun w' hE => hy a ha w' hE _ rfl rfl, h _ (ha.put hd v)⟩
theorem CX {f : FuncId} {cl : List Operand} {ats : Array TypeId} {vs : List Value} {Φ : Value → World → Prop} (hi : ops[i]? = some ⟨some d, .call ⟨.value (.func f), cl.toArray, ats⟩, ty, pos, after, g⟩) (hw : Wt ops N l g) (hd : Nat.blt d N = true)
    (hv : evs l cl = some vs) (hf : ∀ args w, (callFunc f args).run P w = .ok (.enter f args) w) (hc : Calls P f vs.toArray w (RetX w Φ))
    (h : ∀ v w', Ext w w' → Φ v w' → WX X P N ops Q π ((d, v) :: l) w') : WX X P N ops Q (i :: π) l w := fun a ha => by
  refine ⟨_, hi, ?_⟩
  rw [if_pos (hw a ha _ rfl)]
  refine .inr ⟨rfl, ?_⟩
  have hm := ha.evals hv
  have hrun : (execOp a.eval ⟨some d, .call ⟨.value (.func f), cl.toArray, ats⟩, ty, pos, after, g⟩).run P w = .ok (.enter f vs.toArray) w := by
    simp only [execOp, resolve, List.map_toArray, hm, Act.eval, Deferred.ofValue]
    simp [invoke, hf]
  unfold Oper.wp
  rw [hrun, Oper.upon_enter]
  refine hc.mono fun e w' he => ?_
  cases e with
  | returned v => exact ⟨⟨v, rfl⟩, fun _ => Gr.of_ext he.1, h v w' he.1 he.2 _ (ha.put hd v)⟩
  | panicked c => exact he
  | outgrown => exact he.elim
theorem FX {w' : World} (hi : ops[i]? = some ⟨some d, op, ty, pos, after, g⟩) (hw : Wt ops N l g) (hA : isA op = false) (hd : Nat.blt d N = true)
    (hr : ∀ a, At N a l → (execOp a.eval ⟨some d, op, ty, pos, after, g⟩).run P w = .ok (.value v) w') (hE : Gr X w w')
    (h : WX X P N ops Q π ((d, v) :: l) w') : WX X P N ops Q (i :: π) l w := fun a ha => by
  refine ⟨_, hi, ?_⟩
  rw [if_pos (hw a ha _ rfl)]
  refine .inr ⟨hA, ?_⟩
  unfold Oper.wp
  rw [hr a ha]
  exact ⟨⟨v, rfl⟩, fun _ => hE, h _ (ha.put hd v)⟩
theorem APZX {v0 : Value} {B : Nat} {E : TypeId} {xs : List Int} {k : Nat} {cl : Int} (hi : ops[i]? = some ⟨some d, .call ⟨.builtin .append, #[x, y], #[T, T']⟩, ty, pos, after, g⟩) (hw : Wt ops N l g) (hd : Nat.blt d N = true) (hx : ev l x = some v0) (hy : ev l y = some (.int .i64 cl))
    (hT : SlT P T E (.int .i64 0) 1 8) (hTn : P.underlying T' = some (.int .i64)) (hX : ∀ q, v0.ownBlock = some q → q ∈ X) (ho : OwnI B w v0 E xs) (hB : B ≤ w.heap.size) (hcl : cl = (k : Int)) (hlen : xs.length + k ≤ 17592186044416)
    (h : ∀ v w', w.grownBy w' v0.ownBlock → (∀ w0, w0.heap.size ≤ B → Ext w0 w → Ext w0 w') → OwnI B w' v E (xs ++ List.replicate k 0) → (v.ownBlock = v0.ownBlock ∨ v.ownBlock = some w.heap.size) → WX X P N ops Q π ((d, v) :: l) w') : WX X P N ops Q (i :: π) l w := by
  subst hcl
  obtain ⟨j, hj, hj1, hj2, hj3⟩ := info_parts hT.inf
  obtain ⟨v', w', hrun, h2, h3, h5⟩ := run_append_zeros_own (P := P) w B T T' ty E j hT.und hTn hj hj1 hj2 hj3 v0 xs.length (xs.map (Value.int .i64)) (by have := ho.row; simpa using this) k hlen hB
  have e : xs.map (Value.int .i64) ++ List.replicate k (Value.int .i64 0) = (xs ++ List.replicate k 0).map (Value.int .i64) := by simp
  refine FX (v := v') (w' := w') hi hw rfl hd (fun a ha => ?_) (Gr.of_grown h3 hX) (h v' w' h3 (fun w0 hB0 hE0 => hE0.grownI h3 ho hB0) ⟨?_, ?_⟩ h5)
  · simp [execOp, resolve, invoke, builtin, ha.eval hx, ha.eval hy, hrun]
  · rw [e] at h2
    simpa using h2
  · simp; omega
end
end Go.Sx


namespace Go.Sx
open Go Go.RowKit Go.Pl
def ro (r : Option Nat) : Fence := { Fence.wide with round := r }
section
variable {P : Program} {r : Option Nat} {n : Nat}
theorem ci_of {f : FuncId} {args : Array Value} {w : World} {R : Ending → World → Prop} (h : Calls P f args w R) : CallsIn (ro r) n P f args w R := (callsIn_wide (n := n)).2 h
theorem ci_to {f : FuncId} {args : Array Value} {w : World} {R : Ending → World → Prop} (h : CallsIn (ro r) n P f args w R) : Calls P f args w R := (callsIn_wide (n := n)).1 h
def noDefer (ops : Array Oper) : Bool := ops.toList.all fun o => match o.op with
  | .defer _ => false
  | _ => true
theorem noDefer_at {ops : Array Oper} (h : noDefer ops = true) {i : Nat} {o : Oper} (hi : ops[i]? = some o) : ∀ c, o.op ≠ .defer c := fun c hc => by
  have := List.all_eq_true.1 h o (Array.mem_toList_iff.2 (Array.mem_of_getElem? hi))
  rw [hc] at this
  cases this
theorem put_defers (a : Act) (ds : List Deferred) (d : Option Tmp) (v : Value) : ({ a with defers := ds } : Act).put d v = { a.put d v with defers := ds } := by
  cases d <;> rfl
theorem eval_defers (a : Act) (ds : List Deferred) : ({ a with defers := ds } : Act).eval = a.eval := by
  funext x; cases x <;> rfl
theorem wpOpsIn_of_RL {ops : Array Oper} {ds : List Deferred} {K : Act → World → Prop} {Q : Exit → Act → World → Prop} {ρ : List Nat} (hnd : noDefer ops = true) (hQ : ∀ a w, K a w → wpOpsIn (ro r) n P ops Q ρ { a with defers := ds } w) :
    ∀ (l : List Nat) (a : Act) (w : World), RL P ops false K l a w → wpOpsIn (ro r) n P ops Q (l ++ ρ) { a with defers := ds } w
  | [], a, w, h => hQ _ _ h
  | i :: π, a, w, h => by
    obtain ⟨o, ho, h⟩ := h
    have hsem : ∀ ρ', Oper.semAt (ro r).round ρ' o = execOp ρ' o := fun ρ' => Oper.semAt_eq _ _ _ (noDefer_at hnd ho)
    simp only [List.cons_append, wpOpsIn, ho]
    split
    · rename_i hw
      rw [if_pos hw] at h
      refine ⟨fun _ _ => trivial, ?_⟩
      rw [hsem, eval_defers]
      rcases h with ⟨_, v, hv, hq⟩ | ⟨_, hq⟩
      · rw [hv w (.inr (Ext.refl w))]
        show wpOpsIn (ro r) n P ops Q (π ++ ρ) (({ a with defers := ds } : Act).put o.dst v) w
        rw [put_defers]
        exact wpOpsIn_of_RL hnd hQ π _ _ hq
      · unfold Oper.wp at hq
        have next : ∀ a' w', ((∃ v, a' = a.put o.dst v) ∧ (false = true → isTail ops i = false → Ext w w') ∧ RL P ops false K π a' w') → wpOpsIn (ro r) n P ops Q (π ++ ρ) { a' with defers := ds } w' :=
          fun a' w' h => wpOpsIn_of_RL hnd hQ π _ _ h.2.2
        match hr : (execOp a.eval o).run P w with
        | .ok (.value v) w' =>
          rw [hr] at hq
          have := next _ _ hq
          show wpOpsIn (ro r) n P ops Q (π ++ ρ) (({ a with defers := ds } : Act).put o.dst v) w'
          rwa [put_defers]
        | .ok .skip w' =>
          rw [hr] at hq
          have := next _ _ hq
          show wpOpsIn (ro r) n P ops Q (π ++ ρ) (({ a with defers := ds } : Act).put o.dst undef) w'
          rwa [put_defers]
        | .ok (.defer d) w' =>
          rw [hr] at hq
          obtain ⟨⟨v, hv⟩, _⟩ := hq
          have : (d :: a.defers).length = a.defers.length := by
            have h1 := congrArg Act.defers hv
            cases hd : o.dst <;> rw [hd] at h1 <;> exact congrArg List.length h1
          simp at this
        | .ok (.enter f args) w' =>
          rw [hr] at hq
          refine ⟨fun h => (by cases h), ci_of (Calls.mono hq fun e w'' he => ?_)⟩
          cases e with
          | returned v =>
            have := next _ _ he
            show wpOpsIn (ro r) n P ops Q (π ++ ρ) (({ a with defers := ds } : Act).put o.dst v) w''
            rwa [put_defers]
          | panicked c => exact he.elim
          | outgrown => obtain ⟨_, _, hf⟩ := he; exact hf.elim
        | .ok (.row row args) w' =>
          rw [hr] at hq
          refine ⟨fun h => (by cases h), fun c cs _ => ?_⟩
          obtain ⟨v, w'', h1, h2⟩ := hq c cs
          refine ⟨v, w'', ?_, stepsIn_wide.2 h2⟩
          have := next _ _ h1
          show wpOpsIn (ro r) n P ops Q (π ++ ρ) (({ a with defers := ds } : Act).put o.dst v) w''
          rwa [put_defers]
        | .ok (.round a1 a2 a3 a4 a5) w' => rw [hr] at hq; exact hq.elim
        | .halt (.panic v) w' => rw [hr] at hq; exact hq.elim
        | .ok (.callThen _ _ _ _) w' => rw [hr] at hq; exact hq.elim
        | .ok (.stack _ _) w' => rw [hr] at hq; exact hq.elim
        | .ok .recover w' => rw [hr] at hq; exact hq.elim
        | .ok (.spawn _) w' => rw [hr] at hq; exact hq.elim
        | .ok (.comm _ _ _) w' => rw [hr] at hq; exact hq.elim
        | .ok .numGoroutine w' => rw [hr] at hq; exact hq.elim
        | .ok .collect w' => rw [hr] at hq; exact hq.elim
        | .ok (.watch _) w' => rw [hr] at hq; exact hq.elim
        | .ok (.newcoro _ _) w' => rw [hr] at hq; exact hq.elim
        | .ok (.coroswitch _ _) w' => rw [hr] at hq; exact hq.elim
        | .ok (.sleep _) w' => rw [hr] at hq; exact hq.elim
        | .ok (.timer _) w' => rw [hr] at hq; exact hq.elim
        | .ok (.alone _ _) w' => rw [hr] at hq; exact hq.elim
        | .halt .blocked w' => rw [hr] at hq; exact hq.elim
        | .halt .waiting w' => rw [hr] at hq; exact hq.elim
        | .halt (.exit _) w' => rw [hr] at hq; exact hq.elim
        | .halt (.fatal _) w' => rw [hr] at hq; exact hq.elim
        | .halt (.throw _) w' => rw [hr] at hq; exact hq.elim
        | .halt .goexit w' => rw [hr] at hq; exact hq.elim
        | .halt (.unsupported _) w' => rw [hr] at hq; exact hq.elim
        | .halt (.stuck _) w' => rw [hr] at hq; exact hq.elim
    · rename_i hw
      rw [if_neg hw] at h
      refine ⟨fun _ _ => trivial, ?_⟩
      rw [put_defers]
      exact wpOpsIn_of_RL hnd hQ π _ _ h
end
def AtD (N : Nat) (ds : List Deferred) (a : Act) (l : Env) : Prop := a.defers = ds ∧ At N { a with defers := [] } l
theorem AtD.sub {N : Nat} {ds : List Deferred} {a : Act} {l m : Env} (h : AtD N ds a l) (hs : Sub l m) : AtD N ds a m := ⟨h.1, h.2.sub hs⟩
theorem AtD.eval {N : Nat} {ds : List Deferred} {a : Act} {l : Env} (h : AtD N ds a l) {x : Operand} {v : Value} (hx : ev l x = some v) : a.eval x = v := by
  rw [← eval_defers a []]; exact h.2.eval hx
section
variable (P : Program) (r : Option Nat) (n : Nat) (ds : List Deferred) (N : Nat)
def WI (c : Code) (Q : Exit → Act → World → Prop) (l : Env) (w : World) : Prop := ∀ a, AtD N ds a l → c.wpIn (ro r) n P Q a w
def PostD (Q : Exit → Act → World → Prop) (e : Exit) (l : Env) (w : World) : Prop := ∀ a, AtD N ds a l → Q e a w
end
section
variable {P : Program} {r : Option Nat} {n : Nat} {ds : List Deferred} {N : Nat} {Q : Exit → Act → World → Prop} {l : Env} {w : World} {ops : Array Oper}
theorem atd_eta {a : Act} (h : a.defers = ds) : ({ a with defers := ds } : Act) = a := by cases a; cases h; rfl
def RegQ (ds : List Deferred) (Q : Exit → Act → World → Prop) : Exit → Act → World → Prop := fun e a w => Q e { a with defers := ds } w
theorem wi_region {id : Nat} (π : List Nat) (hπ : List.range ops.size = π) (h : WR P N ops false (RegQ ds Q .normal) π l w) (hnd : noDefer ops = true := by kernel_rfl) : WI P r n ds N (.region id ops false) Q l w := by
  intro a ha
  refine wpIn_region ?_
  have := wpOpsIn_of_RL (ds := ds) (r := r) (n := n) (Q := Q) (ρ := []) hnd (fun a w hk => hk) π _ w (h _ ha.2)
  rw [List.append_nil, show ({ ({ a with defers := [] } : Act) with defers := ds } : Act) = a from atd_eta ha.1] at this
  rw [hπ]
  exact this
theorem wir_nil (h : PostD ds N Q .normal l w) : WR P N ops false (RegQ ds Q .normal) [] l w := fun a ha => h _ ⟨rfl, by rw [← ha.defers] at *; cases a; exact ha⟩
def YieldQ (P : Program) (r : Option Nat) (n : Nat) (ds : List Deferred) (ops : Array Oper) (Q : Exit → Act → World → Prop) (ρ : List Nat) : Act → World → Prop := fun a w => wpOpsIn (ro r) n P ops Q ρ { a with defers := ds } w
theorem wi_regionY {id : Nat} (π ρ : List Nat) (hπ : List.range ops.size = π ++ ρ) (h : WR P N ops false (YieldQ P r n ds ops Q ρ) π l w) (hnd : noDefer ops = true := by kernel_rfl) : WI P r n ds N (.region id ops false) Q l w := by
  intro a ha
  refine wpIn_region ?_
  have := wpOpsIn_of_RL (ds := ds) (r := r) (n := n) (Q := Q) (ρ := ρ) hnd (fun a w hk => hk) π _ w (h _ ha.2)
  rw [show ({ ({ a with defers := [] } : Act) with defers := ds } : Act) = a from atd_eta ha.1] at this
  rw [hπ]
  exact this
theorem wir_yield {i d : Nat} {ρ : List Nat} {x : Operand} {cl : List Operand} {vs : List Value} {ats : Array TypeId} {ty : TypeId} {pos : String} {after : Array Edge} {rl : Nat} {R : Ending → World → Prop}
    (hi : ops[i]? = some ⟨some d, .call ⟨.value x, cl.toArray, ats⟩, ty, pos, after, none⟩) (hnd : noDefer ops = true) (hd : Nat.blt d N = true) (hx : ev l x = some (.func (.yield rl) #[] #[])) (hv : evs l cl = some vs)
    (hY : YieldAt (ro r) (n - 1) P rl vs.toArray w R) (h : ∀ e w', R e w' → ∃ v, e = .returned v ∧ WR P N ops false (RegQ ds Q .normal) ρ ((d, v) :: l) w') :
    WR P N ops false (YieldQ P r n ds ops Q (i :: ρ)) [] l w := by
  intro a ha
  obtain ⟨fn, tmps, assign, body, hy, hR⟩ := hY
  show wpOpsIn (ro r) n P ops Q (i :: ρ) { a with defers := ds } w
  simp only [wpOpsIn, hi]
  have hm := ha.evals hv
  have hrun : (execOp a.eval ⟨some d, .call ⟨.value x, cl.toArray, ats⟩, ty, pos, after, none⟩).run P w = .ok (.round rl fn tmps assign body) w := by
    simp only [execOp, resolve, List.map_toArray, hm, ha.eval hx, Deferred.ofValue]
    simp [invoke, hy]
  split
  · refine ⟨fun _ _ => trivial, ?_⟩
    rw [Oper.semAt_eq _ _ _ (noDefer_at hnd hi), eval_defers, hrun]
    refine ⟨fun h => (by cases h), hR.mono fun e w' he => ?_⟩
    obtain ⟨v, rfl, hw⟩ := h e w' he
    show wpOpsIn (ro r) n P ops Q ρ (({ a with defers := ds } : Act).put (some d) v) w'
    rw [put_defers, ← List.append_nil ρ]
    exact wpOpsIn_of_RL hnd (fun a w hk => hk) ρ _ w' (hw _ (ha.put hd v))
  · rename_i hw
    exact (hw (by simp [Region.wanted])).elim
theorem wi_seq {x y : Code} (h : WI P r n ds N x (Exit.then (fun a w => y.wpIn (ro r) n P Q a w) Q) l w) : WI P r n ds N (.seq x y) Q l w := fun a ha => wpIn_seq (h a ha)
theorem wi_skip (h : PostD ds N Q .normal l w) : WI P r n ds N .skip Q l w := fun a ha => wpIn_skip (h a ha)
theorem wi_ret (h : PostD ds N Q .ret l w) : WI P r n ds N .ret Q l w := fun a ha => wpIn_ret (h a ha)
theorem wi_exit {id : Nat} (h : PostD ds N Q (.exit id) l w) : WI P r n ds N (.exit id) Q l w := fun a ha => wpIn_exit (h a ha)
theorem wi_block {id : Nat} {c : Code} (h : WI P r n ds N c (Exit.inBlock id Q) l w) : WI P r n ds N (.block id c) Q l w := fun a ha => wpIn_block (h a ha)
theorem wi_cond {c : Operand} {x y : Code} {b : Bool} (hc : ev l c = some (.bool b)) (ht : b = true → WI P r n ds N x Q l w) (hf : b = false → WI P r n ds N y Q l w) : WI P r n ds N (.cond c x y) Q l w :=
  fun a ha => wpIn_cond_split (ha.eval hc) (fun h => ht h a ha) (fun h => hf h a ha)
theorem wi_condT {c : Operand} {x y : Code} {b : Bool} (hc : ev l c = some (.bool b)) (hb : b = true) (ht : WI P r n ds N x Q l w) : WI P r n ds N (.cond c x y) Q l w :=
  wi_cond hc (fun _ => ht) (fun h => by rw [hb] at h; cases h)
theorem wi_condF {c : Operand} {x y : Code} {b : Bool} (hc : ev l c = some (.bool b)) (hb : b = false) (hf : WI P r n ds N y Q l w) : WI P r n ds N (.cond c x y) Q l w :=
  wi_cond hc (fun h => by rw [hb] at h; cases h) (fun _ => hf)
def LoopQD {σ : Type} (ds : List Deferred) (N : Nat) (L : σ → Env) (I : σ → World → Prop) (μ : σ → Nat) (m : Nat) (Q : Exit → Act → World → Prop) : Exit → Act → World → Prop :=
  Exit.then (fun a w => ∃ s, AtD N ds a (L s) ∧ I s w ∧ μ s < m) Q
theorem wpIn_loop_ind {F : Fence} {c : Code} (J : Nat → Act → World → Prop) (round : ∀ m a w, J m a w → c.wpIn F n P (Exit.then (fun a' w' => ∃ k, k < m ∧ J k a' w') Q) a w) :
    ∀ m a w, J m a w → (Code.loop c).wpIn F n P Q a w := by
  intro m a w h b k cs hro hb hr
  have key : ∀ j a w, J j a w →
      ∃ e a' w', Q e a' w' ∧ ArrivesIn (Machine.fenced P F) P (lone (b.atR a (.code c :: .inLoop c :: k)) cs w) b k cs e a' w' := by
    intro j
    induction j using Nat.strongRecOn with
    | _ j ih =>
      intro a w hJ
      obtain ⟨e, a₁, w₁, hq, harr⟩ := round j a w hJ b (.inLoop c :: k) cs hro hb hr
      cases e with
      | normal =>
        obtain ⟨j', hlt, hJ₁⟩ := hq
        obtain ⟨e₂, a₂, w₂, hq₂, harr₂⟩ := ih j' hlt a₁ w₁ hJ₁
        exact ⟨e₂, a₂, w₂, hq₂, .of_steps (StepsIn.trans harr (.one (fenced_calm hb hr rfl) stepR_inLoop)) harr₂⟩
      | exit id => exact ⟨_, a₁, w₁, hq, .pass (x := .inLoop c) rfl (fun _ _ => .inl (by simp)) harr⟩
      | goto l => exact ⟨_, a₁, w₁, hq, .pass (x := .inLoop c) rfl (fun _ _ => .inl (by simp)) harr⟩
      | ret => exact ⟨_, a₁, w₁, hq, .pass (x := .inLoop c) rfl (fun _ _ => .inl (by simp)) harr⟩
      | panic ch => exact ⟨_, a₁, w₁, hq, .pass (x := .inLoop c) rfl (fun _ _ => .inl (by simp)) harr⟩
      | outgrown => exact ⟨_, a₁, w₁, hq, .pass (x := .inLoop c) rfl (fun _ _ => .inl (by simp)) harr⟩
  obtain ⟨e, a', w', hq, harr⟩ := key m a w h
  exact ⟨e, a', w', hq, .of_steps (.one (fenced_calm hb hr rfl) stepR_loop) harr⟩
theorem wi_loop {σ : Type} (L : σ → Env) (I : σ → World → Prop) (μ : σ → Nat) (s0 : σ) {body : Code} (hL : Sub l (L s0)) (hI : I s0 w)
    (round : ∀ s w, I s w → WI P r n ds N body (LoopQD ds N L I μ (μ s) Q) (L s) w) : WI P r n ds N (.loop body) Q l w := by
  intro a ha
  refine wpIn_loop_ind (P := P) (Q := Q) (fun m a w => ∃ s, AtD N ds a (L s) ∧ I s w ∧ μ s = m) ?_ (μ s0) a w ⟨s0, ha.sub hL, hI, rfl⟩
  rintro m a w ⟨s, hA, hI, rfl⟩
  refine wpIn_mono (round s w hI a hA) (fun e a' w' hq => ?_)
  cases e with
  | normal => obtain ⟨s', h1, h2, h3⟩ := hq; exact ⟨μ s', h3, s', h1, h2, rfl⟩
  | _ => exact hq
theorem posti_thenN {y : Code} {Q' : Exit → Act → World → Prop} (h : WI P r n ds N y Q l w) : PostD ds N (Exit.then (fun a w => y.wpIn (ro r) n P Q a w) Q') .normal l w := h
theorem posti_thenE {K : Act → World → Prop} {id : Nat} (h : PostD ds N Q (.exit id) l w) : PostD ds N (Exit.then K Q) (.exit id) l w := h
theorem posti_thenR {K : Act → World → Prop} (h : PostD ds N Q .ret l w) : PostD ds N (Exit.then K Q) .ret l w := h
theorem posti_loopN {σ : Type} {L : σ → Env} {I : σ → World → Prop} {μ : σ → Nat} {m : Nat} (s' : σ) (hL : Sub l (L s')) (hI : I s' w) (hm : μ s' < m) : PostD ds N (LoopQD ds N L I μ m Q) .normal l w :=
  fun _ ha => ⟨s', ha.sub hL, hI, hm⟩
theorem posti_loopE {σ : Type} {L : σ → Env} {I : σ → World → Prop} {μ : σ → Nat} {m : Nat} {id : Nat} (h : PostD ds N Q (.exit id) l w) : PostD ds N (LoopQD ds N L I μ m Q) (.exit id) l w := h
theorem posti_loopR {σ : Type} {L : σ → Env} {I : σ → World → Prop} {μ : σ → Nat} {m : Nat} (h : PostD ds N Q .ret l w) : PostD ds N (LoopQD ds N L I μ m Q) .ret l w := h
theorem posti_blockN {id : Nat} (h : PostD ds N Q .normal l w) : PostD ds N (Exit.inBlock id Q) .normal l w := h
theorem posti_blockR {id : Nat} (h : PostD ds N Q .ret l w) : PostD ds N (Exit.inBlock id Q) .ret l w := h
theorem posti_blockX {id : Nat} (h : PostD ds N Q .normal l w) : PostD ds N (Exit.inBlock id Q) (.exit id) l w := fun a ha => by
  show (if id = id then Q .normal a w else Q (.exit id) a w)
  rw [if_pos rfl]
  exact h a ha
end
def mark (D : Nat) : List Deferred := [{ target := .collected D, args := #[] }]
section
variable {P : Program} {r : Option Nat} {n : Nat} {ds : List Deferred} {N : Nat} {Q : Exit → Act → World → Prop} {l : Env} {w : World} {fn : Func} {R : Ending → World → Prop}
theorem posti_of {e : Exit} (h : Post N Q e l w) : PostD [] N Q e l w := fun a ha => h a (by have := ha.2; rwa [atd_eta ha.1] at this)
theorem atd_of {a : Act} (h : At N a l) : AtD N [] a l := ⟨h.defers, by rw [atd_eta h.defers]; exact h⟩
theorem at_args {args : List Value} {M : Nat} (hN : M = N) (hlen : Nat.ble args.length N = true) (hl : ∀ t v, lk l t = some v → args[t]? = some v) : At N { tmps := args.toArray ++ Array.replicate (M - args.toArray.size) undef, defers := [] } l := by
  refine ⟨rfl, ?_, ?_⟩
  · have : args.length ≤ N := Nat.le_of_ble_eq_true hlen
    simp [hN]; omega
  · intro t v ht
    have := hl t v ht
    have hlt : t < args.length := (List.getElem?_eq_some_iff.1 this).1
    simp [Array.getElem?_append, hlt]
    simpa [List.getElem?_eq_getElem hlt] using this
theorem iter_of2 {f : FuncId} {c : Code} {v0 v1 : Value} (hf : P.funcs[f]? = some fn) (hb : fn.body = some c) (hN : Nat.ble 2 fn.ntmps = true := by rfl) (h : WI P none n [] fn.ntmps c (bodyPost P fn R) [(0, v0), (1, v1)] w) : CallsIn (ro none) n P f #[v0, v1] w R :=
  callsIn_of_wp hf hb trivial (h _ (atd_of (at_args (args := [v0, v1]) rfl hN (fun t _ h => match t, h with
    | 0, h => h
    | 1, h => h
    | _ + 2, h => h)))) rfl
theorem callsM2 {f : FuncId} {c : Code} {v0 v1 : Value} (hf : P.funcs[f]? = some fn) (hb : fn.body = some c) (hN : Nat.ble 2 fn.ntmps = true := by rfl) (h : WI P none 2 [] fn.ntmps c (bodyPostM (ro none) 2 P fn R) [(0, v0), (1, v1)] w) : Calls P f #[v0, v1] w R :=
  ci_to (callsIn_of_wp_marks hf hb trivial (h _ (atd_of (at_args (args := [v0, v1]) rfl hN (fun t _ h => match t, h with
    | 0, h => h
    | 1, h => h
    | _ + 2, h => h)))) rfl)
theorem posti_retM {D : Nat} (hk : w.heap[D]? = some (.deferred (some []))) (h : Post N (bodyPost P fn R) .ret l (w.putObj D (.deferred none))) : PostD (mark D) N (bodyPostM (ro none) n P fn R) .ret l w := fun a ha => by
  obtain ⟨_, v, h1, h2⟩ := h _ ha.2
  show LeavesInM (ro none) n P fn a.tmps R a.defers .returning w
  rw [ha.1]
  exact ⟨by simp, .inl ⟨D, _, rfl, run_takeDeferred hk, v, h1, h2⟩⟩
theorem posti_retM0 (h : Post N (bodyPost P fn R) .ret l w) : PostD [] N (bodyPostM (ro none) n P fn R) .ret l w := fun a ha => by
  obtain ⟨_, v, h1, h2⟩ := h _ ha.2
  show LeavesInM (ro none) n P fn a.tmps R a.defers .returning w
  rw [ha.1]
  exact ⟨v, h1, h2⟩
theorem Ext.putObj {w0 w : World} (h : Ext w0 w) {D : Nat} (hD : w0.heap.size ≤ D) (o : Obj) : Ext w0 (w.putObj D o) :=
  Below.grown h (grownBy_putObj' w D o) h.size (fun k e => by cases e; exact hD)
theorem wp_assign1 {id p d : Nat} {ty : TypeId} {pos : String} {after : Array Edge} {K : Act → World → Prop} {Q' : Exit → Act → World → Prop} {a : Act} (h : K (a.put (some d) (a.eval (.tmp p))) w) :
    (Code.region id #[⟨some d, .assign (.tmp p), ty, pos, after, none⟩] false).wpIn (ro r) n P (Exit.then K Q') a w := by
  refine wpIn_region ?_
  show wpOpsIn _ n P _ _ [0] a w
  simp only [wpOpsIn, List.getElem?_toArray, List.getElem?_cons_zero]
  rw [if_pos (by simp [Region.wanted])]
  refine ⟨fun _ _ => trivial, ?_⟩
  rw [Oper.semAt_eq _ _ _ (fun c hc => by cases hc)]
  exact h
theorem wi_rangeFunc {α : Type} {g : Operand} {id p d : Nat} {ty : TypeId} {pos : String} {after : Array Edge} {body : Code} {gf : Nat} {lb : Array Value} {enc : α → Value} {S Sp : List α → Prop} {M : Nat}
    (I : List α → World → Prop) (Ix : Code → List α → World → Prop)
    (hg : ev l g = some (.func (.func gf) #[] lb)) (eg : ∀ args w, (callFunc gf args).run P w = .ok (.enter gf args) w)
    (hp : Nat.blt p N = true) (hd : Nat.blt d N = true) (hseq : SeqStopsK (ro none) 1 P gf lb (fun x => #[enc x]) (fun _ _ => True) S Sp M w)
    (hI : OwnFrom w.heap.size I) (hIx : ∀ c, OwnFrom w.heap.size (Ix c)) (h0 : I [] w)
    (hbody : ∀ (rl : Nat) (pre : List α) (x : α) (W : World), I pre W → pre.length < M → WI P (some rl) 0 [] N body (ownPostG w.heap.size (fun _ _ => True) I Ix (pre ++ [x]) W) ((d, enc x) :: (p, enc x) :: l) W)
    (hdone : ∀ (D : Nat) (xs : List α) (W : World), w.heap.size ≤ D → S xs → I xs W → W.heap[D]? = some (.deferred (some [])) → PostD (mark D) N Q .normal l W)
    (hstop : ∀ (D : Nat) (c : Code) (pre : List α) (W : World), w.heap.size ≤ D → Sp pre → Ix c pre W → W.heap[D]? = some (.deferred (some [])) → WI P none 2 (mark D) N c Q l W) :
    WI P none 2 [] N (.rangeFunc g #[p] (.region id #[⟨some d, .assign (.tmp p), ty, pos, after, none⟩] false) body) Q l w := by
  intro a ha
  have ha0 : At N a l := by have := ha.2; rwa [atd_eta ha.1] at this
  refine wpIn_rangeFunc_ownG (F := ro none) (a₁ := fun x => (({ a with defers := [] } : Act).put (some p) (enc x)).put (some d) (enc x)) rfl (by omega) (ha.eval hg) trivial eg hseq (fun _ _ => trivial) (fun _ _ _ _ _ _ _ _ => trivial) (Below.refl _ _) (fun _ => rfl) I Ix hI hIx h0 ?_ ?_ ?_ ?_
  · intro rl x W K hK
    refine wp_assign1 (r := some rl) ?_
    have e1 : ({ tmps := ((#[p] : Array Tmp).zip #[enc x]).foldl (fun t (p, v) => t.setIfInBounds p v) a.tmps, defers := [] } : Act) = ({ a with defers := [] } : Act).put (some p) (enc x) := by
      simp [Act.put]
    rw [e1]
    have e2 : (({ a with defers := [] } : Act).put (some p) (enc x)).eval (.tmp p) = enc x := (ha.2.put hp (enc x)).eval (show ev ((p, enc x) :: l) (.tmp p) = some (enc x) by show lk _ _ = _; rw [lk_cons, if_pos rfl])
    rw [e2]
    exact hK
  · intro rl pre x W hi hl
    exact hbody rl pre x W hi hl _ (atd_of ((ha.2.put hp _).put hd _))
  · intro D xs W hD hS hi hk
    exact hdone D xs W hD hS hi hk _ ⟨by rw [ha.1]; rfl, ha.2⟩
  · intro D c pre W hD hS hi hk
    exact hstop D c pre W hD hS hi hk _ ⟨by rw [ha.1]; rfl, ha.2⟩
theorem keeps_ext {B : Nat} {W W' : World} (h : Ext W W') : KeepsFrom B W W' := ⟨h.size, fun k _ _ hk _ => (Below.block h k (Array.getElem?_eq_some_iff.1 hk).1).trans hk⟩
end
end Go.Sx

