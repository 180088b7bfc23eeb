/-
  Statement WholeTrellises of package codewrighttop: for every code and every order the law returns true. No condition.
-/
import Derived.Test.YteheedbhcfllfaaGreatDoorW43
import Derived.Test.YteheedbhcfllfaaGreatDoorWFactsT
import Derived.Test.YteheedbhcfllfaaGreatDoorW45
import Derived.Test.YteheedbhcfllfaaGreatDoorCards
import Derived.Test.YteheedbhcfllfaaGreatDoorTie
import Derived.LaidMore
import Derived.OpenShut
import Derived.Stop.Joined
import Derived.SevenTiedAt
namespace Go.Proofs.YteheedbhcfllfaaGreatDoor
open Go Go.Sx Go.Pl Go.RowKit Go.Fd Go.Alg Go.Fr
theorem ftT : FT Tryz.prog 24 := ⟨⟨_, _, _, 3, Tryz.underlying24, by kernel_rfl, rfl, rfl, rfl, by kernel_rfl, by kernel_rfl, by kernel_rfl, Tryz.underlying3, Tryz.underlying3, Tryz.underlying22, Tryz.underlying3, by kernel_rfl, by kernel_rfl⟩⟩
structure CodeRec where
 f : FRec
 n : Int
 v : Value
 L : List (List Int)
def CodeRec.val (r : CodeRec) : Value := .agg #[.int .i64 r.f.p, .int .i64 r.f.M, r.f.mo, .int .i64 r.n, r.v]
structure CodeOf (w : World) (r : CodeRec) : Prop where
 f : FOf w r.f
 L : LL w r.v r.L
section
variable {H : Type} {enc : TypeId × Value → H} {w : World} {base : Nat} {held : Bool} {d : DataW H} {ps : List MemPlace} {r : Reach} {b0 : Nat} {v : Value}
set_option maxRecDepth 100000 in
theorem op_code (hval : Value.okWide Tryz.prog w r b0 27 v) (hd : DataW.Trod enc Tryz.prog w base (fun _ => true) held 27 v d ps) (hw : WOK Tryz.prog 27 d) :
  ∃ x : CodeRec, v = x.val ∧ CodeOf w x := by
 obtain ⟨cs, fuel, rfl, h⟩ := op_struct Tryz.underlying27 hval hd
 obtain ⟨hl, hf⟩ := Qay Tryz.underlying27 h hw
 rw [show Tryz.prog.cellsOf 27 = 5 by kernel_rfl] at hl
 have c1 : Tryz.prog.cellsOf 3 = 1 := by kernel_rfl
 have c3 : Tryz.prog.cellsOf 24 = 3 := by kernel_rfl
 have c2 : Tryz.prog.cellsOf 25 = 1 := by kernel_rfl
 obtain ⟨l⟩ := cs
 simp only at hl h hf
 match l, hl with
 | [a0, a1, a2, a3, a4], _ =>
  obtain ⟨n0, x0, h0, w0⟩ := hf 0 _ rfl
  obtain ⟨n1, x1, h1, w1⟩ := hf 1 _ rfl
  obtain ⟨n2, x2, h2, w2⟩ := hf 2 _ rfl
  replace h0 : DataW.trod enc Tryz.prog w base (fun _ => true) held n0 24 (List.take (Tryz.prog.cellsOf 24) (List.drop 0 [a0, a1, a2, a3, a4])) = some x0 := h0
  replace h1 : DataW.trod enc Tryz.prog w base (fun _ => true) held n1 3 (List.take (Tryz.prog.cellsOf 3) (List.drop 3 [a0, a1, a2, a3, a4])) = some x1 := h1
  replace h2 : DataW.trod enc Tryz.prog w base (fun _ => true) held n2 25 (List.take (Tryz.prog.cellsOf 25) (List.drop 4 [a0, a1, a2, a3, a4])) = some x2 := h2
  rw [c3] at h0
  rw [c1] at h1
  rw [c2] at h2
  obtain ⟨rf, erf, hrf⟩ := cop_field ftT (d := x0.1) (ps := x0.2) h0 w0
  obtain ⟨y1, e1, b1⟩ := QcC Tryz.underlying3 (d := x1.1) (ps := x1.2) h1
  obtain ⟨v2, L2, e2, l2, _⟩ := cop_intss Tryz.underlying25 Tryz.underlying22 Tryz.underlying3 (by kernel_rfl) (by kernel_rfl) (by decide +kernel) (by kernel_rfl) (d := x2.1) (ps := x2.2) h2 w2
  simp at erf e1 e2
  subst e1 e2
  obtain ⟨ea, eb, ec⟩ := erf
  exact ⟨⟨rf, y1, a4, L2⟩, by rw [CodeRec.val, ea, eb, ec], hrf, l2⟩
end
theorem law_WholeTrellises {w : World} (v0 : Value) (x : CodeRec) (s0 : v0 = x.val ∧ CodeOf w x) (v1 : Value) (l : List Int) (s1 : Ints w v1 l) (_ : ∀ z ∈ l, Go.Fr.Fits z) :
  Calls Tryz.prog 3 #[v0, v1] w (RetX w fun v _ => v = .bool true) := by
 obtain ⟨rfl, hx⟩ := s0
 exact Xb x.f.p x.f.M x.f.mo x.v v1 x.f.md x.n x.L l w hx.f.ints hx.L s1
namespace FWholeTrellises
open Go.ChangeShapes Go.WideShapes Go.ChangeAt Go.RowKit Go.Fr
theorem own : ownKnob Tryz.prog.godebug = none := by kernel_rfl
theorem laidOut : laidOutB Tryz.prog = true := by kernel_rfl
theorem door_met (os : Os) (args : Array Value) : laidMetH Tryz.prog Rows.wholeTrellisesRow.laid ((World.doorLaid Tryz.prog 24 os).forCall (fun _ _ => 0) ⟨#[], args, []⟩).memory :=
 laidMetH_of_parts3 (fuel := 8) (laidMet_of_run' 8 (by kernel_rfl) (by kernel_rfl)) (by kernel_rfl) (by kernel_rfl)
set_option maxRecDepth 100000 in
theorem lifted (os : Os) (started : os.Started) (H : Type) (enc : TypeId × Value → H) :
  ReturnsInHanded {} Tryz.checked os 3 .any (fun w args => (Rows.wholeTrellisesSpec.pre enc Tryz.prog Tryz.f3 [] false w args ∧ laidMetH Tryz.prog Rows.wholeTrellisesRow.laid w) ∧ sizedMet enc Tryz.prog Tryz.f3 (OpenSpec.ofChange Rows.wholeTrellisesSpec) false w args) (Rows.wholeTrellisesSpec.post enc Tryz.prog Tryz.f3 false true false false) := by
 refine returnsInHanded_of_change_and (C := Tryz.checked) (X := fun w _ => laidMetH Tryz.prog Rows.wholeTrellisesRow.laid w) (fun _ _ _ hh h => h.of_heap hh) own started (by kernel_rfl) Tryz.func3
  (ChangeSpec.witness_shaped (enc := enc) (C := Tryz.checked) (os := os) (X := fun w _ => laidMetH Tryz.prog Rows.wholeTrellisesRow.laid w) false (World.doorLaid Tryz.prog 24 os) #[.agg #[.int .i64 0, .int .i64 0, .slice none 0 0, .int .i64 0, .slice none 0 0], .slice none 0 0] 8 rfl (World.shaped_of_RefB (by kernel_rfl) (by kernel_rfl)) (by kernel_rfl) (by kernel_rfl) (by kernel_rfl) (door_met os _)) ?_
 intro W base args ds gs before hval0 hW _ hsz0 _ _
 have hval : ∀ (j : Nat) t v, Tryz.f3.params[j]? = some t → args[j]? = some v → Value.okWide Tryz.prog W .any base t v := hval0
 have hW' := hW
 obtain ⟨p, q, hA0, hV, rfl, hfz, hnd⟩ := hW
 have hA : DataW.TrodAll enc Tryz.prog W 0 (fun _ => true) true Tryz.f3.params.toList args.toList ds p := hA0
 have hsz : (DataW.weightsEach Tryz.prog (Tryz.f3.params.toList ++ Rows.wholeTrellisesSpec.plain.varTypes Tryz.prog) (ds ++ gs)).all (· ≤ reachBytes) = true := hsz0
 rw [Tryz.params3] at hA hval hsz
 obtain ⟨v0, vs0, d0, ds0, p0, q0, hargs, rfl, rfl, h0, r0⟩ := trodAll_cons hA
 obtain ⟨v1, vs1, d1, ds1, p1, q1, rfl, rfl, rfl, h1, r1⟩ := trodAll_cons r0
 obtain ⟨rfl, rfl, rfl⟩ := trodAll_nil r1
 obtain rfl : args = #[v0, v1] := by cases args; simp_all
 obtain ⟨rfl, rfl⟩ := trodVars_none hV
 have k0 := h0
 have lt0 : ∀ x ∈ p0, x.block < W.heap.size := by obtain ⟨m, hm⟩ := k0; exact DataW.trod_lt m _ _ _ hm
 have w0 : WOK Tryz.prog 27 d0 := Qb4 hsz (j := 0) rfl rfl
 obtain ⟨x0, s0⟩ := op_code (hval 0 27 v0 rfl rfl) h0 w0
 have k1 := h1
 have lt1 : ∀ x ∈ p1, x.block < W.heap.size := by obtain ⟨m, hm⟩ := k1; exact DataW.trod_lt m _ _ _ hm
 have w1 : WOK Tryz.prog 22 d1 := Qb4 hsz (j := 1) rfl rfl
 obtain ⟨z1, s1, b1⟩ := op_ints Tryz.underlying22 Tryz.underlying3 (by kernel_rfl) (by kernel_rfl) (hval 1 22 v1 rfl rfl) h1 w1
 refine (law_WholeTrellises (w := W) v0 x0 s0 v1 z1 s1 b1).mono fun e W' he => ?_
 cases e with
 | panicked c => exact he.elim
 | outgrown => exact he.elim
 | returned v =>
  obtain ⟨bel, rfl⟩ := he
  exact ⟨_, rfl, _, _, _, [], _, [], hW', trodAll_mk1 (shut_bool Tryz.underlying4 _), (trodAll_cons_mk (Below.trod laidOut (by kernel_rfl) (of_decide_eq_true (by kernel_rfl)) k0 bel lt0) (trodAll_cons_mk (Below.trod laidOut (by kernel_rfl) (of_decide_eq_true (by kernel_rfl)) k1 bel lt1) trodAll_mk0)), rfl, bel.frame _, fun h => by cases h⟩
theorem over : Rows.wholeTrellisesRow.holds Tryz.pinned (OpenSpec.ofChange Rows.wholeTrellisesSpec) :=
 OpenClaim.holds_of_wide 3 Tryz.f3 rfl rfl rfl rfl rfl rfl rfl ⟨rfl, rfl, rfl, rfl, rfl⟩ rfl rfl rfl rfl rfl FactsT.named Tryz.func3 FactsT.closed
  FactsT.inst FactsT.wrapper
  (fun os started H enc _ => lifted os started H enc)
end FWholeTrellises
theorem wholeTrellises_row_holds : Rows.WholeTrellisesSaid := FWholeTrellises.over
theorem wholeTrellises_holds : Rows.WholeTrellisesCardSaid :=
 Claim7.holds_tied_plain_at .later [] [.data, .data, .data] true (true, "1fb6ec7921bf9436f80090e87aa7c026b36d28d102c1c52b8b394c1d584c6759") true
  wholeTrellises_row_holds (fun _ h => by cases h) FactsT.wf (fun _ h => by cases h) wholeTrellises_row_tie rfl ⟨rfl, rfl⟩ FactsT.main rfl
  (fun f fn hf hfn => by
   obtain rfl : f = 3 := Option.some.inj (FactsT.named.symm.trans hf) |>.symm
   obtain rfl : fn = Tryz.f3 := (Option.some.inj (Tryz.func3.symm.trans hfn)).symm
   exact ⟨FactsT.looks, fun j t ht => by
    rw [Tryz.params3] at ht
    have hm : t ∈ [27, 22] := by simpa using Array.mem_of_getElem? ht
    have hall : ([27, 22].all fun u => !Tryz.prog.wantsStandIn u) = true := by kernel_rfl
    exact (show Tryz.prog.wantsStandIn t = false by simpa using List.all_eq_true.1 hall t hm)⟩)
  FactsT.goes
end Go.Proofs.YteheedbhcfllfaaGreatDoor
