/-
  No cell of these rows narrows 'for every input' (looked for: loops, veiled, ifaces, maps, wideKeys, modest, calm, conditions, laid).
  DERIVED. THE GIVEN ROWS OF THIS SEAT. 13 by the template 'for every input the law returns true; each argument reads behind the call as it read before'; 0 by the template 'total and deterministic' (their statements: YtjpcgjllmpdmhaaTotals.lean).
  GIVEN WITH THE SEED: the statements are not yours to turn. If you find one false, say at which input.
  Laid BY PROGRAM, IN A SANDBOX (cutbox-rows.mjs): the forced cells as the released guide's own fill.sh prints them over the translation d06344946cd8842b… (all of the seat's roots in one cut). By AI agents, Wed Nov 11 2026. No macro, syntax, notation, axiom, sorry.
-/
import Derived.Test.YtjpcgjllmpdmhaaChecked
import GoSem.Claim
import GoSem.ClaimJoined
import GoSem.ClaimMapViews
import Derived.JoinedTies
import Derived.KernelRfl
namespace Go.Proofs.Ytjpcgjllmpdmhaa
/- THE CELL 'sum', in the pinned program and in every row, IS THE sha256 OF THE DUMP (.gsa) THAT YtjpcgjllmpdmhaaProg.lean LOADS. Nothing in Lean hashes anything: it is a label: what it is worth is what the hold of that sum in a sandbox is worth. -/
noncomputable def Try.pinned : Pinned := { name := "ytjpcgjllmpdmhaa", sum := "d06344946cd8842b0483bbc7a48cf827d5f1302ea36099fcbd243603a253a8ec", checked := Try.checked }
namespace Rows
def none {H : Type} : Left H := { results := [], args := [] }

/-- 'codewrightlaw40.BivariateAdds': WHATEVER THE INPUT: true; the input reads as it did. -/
def bivariateAddsSpec : ChangeSpec := { name := "bivariateAdds", fn := fun _ => fun
  | [d1, d2, d3] => { results := [.lit (.bool true)], args := [d1, d2, d3] }
  | _ => none }
def bivariateAddsRow : OpenClaim := { program := "ytjpcgjllmpdmhaa", sum := "d06344946cd8842b0483bbc7a48cf827d5f1302ea36099fcbd243603a253a8ec", func := "codewright/codewrightlaw40.BivariateAdds", spec := "bivariateAdds", unfollowed := true, recurses := true, apart := false }
def BivariateAddsSaid : Prop := bivariateAddsRow.holds Try.pinned (OpenSpec.ofChange bivariateAddsSpec)

/-- ITS FALSE NEIGHBOUR: 'it returns false'. Refute it at one input. -/
def bivariateAddsWrong : ChangeSpec := { name := "bivariateAdds", fn := fun _ => fun
  | [d1, d2, d3] => { results := [.lit (.bool false)], args := [d1, d2, d3] }
  | _ => none }
def BivariateAddsWrongFalsely : Prop := bivariateAddsRow.holds Try.pinned (OpenSpec.ofChange bivariateAddsWrong)

/-- 'codewrightlaw40.BivariateDegrees': WHATEVER THE INPUT: true; the input reads as it did. -/
def bivariateDegreesSpec : ChangeSpec := { name := "bivariateDegrees", fn := fun _ => fun
  | [d1, d2, d3] => { results := [.lit (.bool true)], args := [d1, d2, d3] }
  | _ => none }
def bivariateDegreesRow : OpenClaim := { program := "ytjpcgjllmpdmhaa", sum := "d06344946cd8842b0483bbc7a48cf827d5f1302ea36099fcbd243603a253a8ec", func := "codewright/codewrightlaw40.BivariateDegrees", spec := "bivariateDegrees", unfollowed := true, recurses := true, apart := false }
def BivariateDegreesSaid : Prop := bivariateDegreesRow.holds Try.pinned (OpenSpec.ofChange bivariateDegreesSpec)

/-- ITS FALSE NEIGHBOUR: 'it returns false'. Refute it at one input. -/
def bivariateDegreesWrong : ChangeSpec := { name := "bivariateDegrees", fn := fun _ => fun
  | [d1, d2, d3] => { results := [.lit (.bool false)], args := [d1, d2, d3] }
  | _ => none }
def BivariateDegreesWrongFalsely : Prop := bivariateDegreesRow.holds Try.pinned (OpenSpec.ofChange bivariateDegreesWrong)

/-- 'codewrightlaw40.BivariateMultiplicities': WHATEVER THE INPUT: true; the input reads as it did. -/
def bivariateMultiplicitiesSpec : ChangeSpec := { name := "bivariateMultiplicities", fn := fun _ => fun
  | [d1, d2, d3] => { results := [.lit (.bool true)], args := [d1, d2, d3] }
  | _ => none }
def bivariateMultiplicitiesRow : OpenClaim := { program := "ytjpcgjllmpdmhaa", sum := "d06344946cd8842b0483bbc7a48cf827d5f1302ea36099fcbd243603a253a8ec", func := "codewright/codewrightlaw40.BivariateMultiplicities", spec := "bivariateMultiplicities", unfollowed := true, recurses := true, apart := false }
def BivariateMultiplicitiesSaid : Prop := bivariateMultiplicitiesRow.holds Try.pinned (OpenSpec.ofChange bivariateMultiplicitiesSpec)

/-- ITS FALSE NEIGHBOUR: 'it returns false'. Refute it at one input. -/
def bivariateMultiplicitiesWrong : ChangeSpec := { name := "bivariateMultiplicities", fn := fun _ => fun
  | [d1, d2, d3] => { results := [.lit (.bool false)], args := [d1, d2, d3] }
  | _ => none }
def BivariateMultiplicitiesWrongFalsely : Prop := bivariateMultiplicitiesRow.holds Try.pinned (OpenSpec.ofChange bivariateMultiplicitiesWrong)

/-- 'codewrightlaw40.BivariateRoots': WHATEVER THE INPUT: true; the input reads as it did. -/
def bivariateRootsSpec : ChangeSpec := { name := "bivariateRoots", fn := fun _ => fun
  | [d1, d2, d3] => { results := [.lit (.bool true)], args := [d1, d2, d3] }
  | _ => none }
def bivariateRootsRow : OpenClaim := { program := "ytjpcgjllmpdmhaa", sum := "d06344946cd8842b0483bbc7a48cf827d5f1302ea36099fcbd243603a253a8ec", func := "codewright/codewrightlaw40.BivariateRoots", spec := "bivariateRoots", unfollowed := true, recurses := true, apart := false }
def BivariateRootsSaid : Prop := bivariateRootsRow.holds Try.pinned (OpenSpec.ofChange bivariateRootsSpec)

/-- ITS FALSE NEIGHBOUR: 'it returns false'. Refute it at one input. -/
def bivariateRootsWrong : ChangeSpec := { name := "bivariateRoots", fn := fun _ => fun
  | [d1, d2, d3] => { results := [.lit (.bool false)], args := [d1, d2, d3] }
  | _ => none }
def BivariateRootsWrongFalsely : Prop := bivariateRootsRow.holds Try.pinned (OpenSpec.ofChange bivariateRootsWrong)

/-- 'codewrightlaw40.BivariateAllRoots': WHATEVER THE INPUT: true; the input reads as it did. -/
def bivariateAllRootsSpec : ChangeSpec := { name := "bivariateAllRoots", fn := fun _ => fun
  | [d1, d2, d3] => { results := [.lit (.bool true)], args := [d1, d2, d3] }
  | _ => none }
def bivariateAllRootsRow : OpenClaim := { program := "ytjpcgjllmpdmhaa", sum := "d06344946cd8842b0483bbc7a48cf827d5f1302ea36099fcbd243603a253a8ec", func := "codewright/codewrightlaw40.BivariateAllRoots", spec := "bivariateAllRoots", unfollowed := true, recurses := true, apart := false }
def BivariateAllRootsSaid : Prop := bivariateAllRootsRow.holds Try.pinned (OpenSpec.ofChange bivariateAllRootsSpec)

/-- ITS FALSE NEIGHBOUR: 'it returns false'. Refute it at one input. -/
def bivariateAllRootsWrong : ChangeSpec := { name := "bivariateAllRoots", fn := fun _ => fun
  | [d1, d2, d3] => { results := [.lit (.bool false)], args := [d1, d2, d3] }
  | _ => none }
def BivariateAllRootsWrongFalsely : Prop := bivariateAllRootsRow.holds Try.pinned (OpenSpec.ofChange bivariateAllRootsWrong)

/-- 'codewrightlaw40.BivariateFactors': WHATEVER THE INPUT: true; the input reads as it did. -/
def bivariateFactorsSpec : ChangeSpec := { name := "bivariateFactors", fn := fun _ => fun
  | [d1, d2, d3] => { results := [.lit (.bool true)], args := [d1, d2, d3] }
  | _ => none }
def bivariateFactorsRow : OpenClaim := { program := "ytjpcgjllmpdmhaa", sum := "d06344946cd8842b0483bbc7a48cf827d5f1302ea36099fcbd243603a253a8ec", func := "codewright/codewrightlaw40.BivariateFactors", spec := "bivariateFactors", unfollowed := true, recurses := true, apart := false }
def BivariateFactorsSaid : Prop := bivariateFactorsRow.holds Try.pinned (OpenSpec.ofChange bivariateFactorsSpec)

/-- ITS FALSE NEIGHBOUR: 'it returns false'. Refute it at one input. -/
def bivariateFactorsWrong : ChangeSpec := { name := "bivariateFactors", fn := fun _ => fun
  | [d1, d2, d3] => { results := [.lit (.bool false)], args := [d1, d2, d3] }
  | _ => none }
def BivariateFactorsWrongFalsely : Prop := bivariateFactorsRow.holds Try.pinned (OpenSpec.ofChange bivariateFactorsWrong)

/-- 'codewrightlaw40.BivariateValues': WHATEVER THE INPUT: true; the input reads as it did. -/
def bivariateValuesSpec : ChangeSpec := { name := "bivariateValues", fn := fun _ => fun
  | [d1, d2, d3] => { results := [.lit (.bool true)], args := [d1, d2, d3] }
  | _ => none }
def bivariateValuesRow : OpenClaim := { program := "ytjpcgjllmpdmhaa", sum := "d06344946cd8842b0483bbc7a48cf827d5f1302ea36099fcbd243603a253a8ec", func := "codewright/codewrightlaw40.BivariateValues", spec := "bivariateValues", unfollowed := true, recurses := true, apart := false }
def BivariateValuesSaid : Prop := bivariateValuesRow.holds Try.pinned (OpenSpec.ofChange bivariateValuesSpec)

/-- ITS FALSE NEIGHBOUR: 'it returns false'. Refute it at one input. -/
def bivariateValuesWrong : ChangeSpec := { name := "bivariateValues", fn := fun _ => fun
  | [d1, d2, d3] => { results := [.lit (.bool false)], args := [d1, d2, d3] }
  | _ => none }
def BivariateValuesWrongFalsely : Prop := bivariateValuesRow.holds Try.pinned (OpenSpec.ofChange bivariateValuesWrong)

/-- 'codewrightlaw40.BivariateSubstitutes': WHATEVER THE INPUT: true; the input reads as it did. -/
def bivariateSubstitutesSpec : ChangeSpec := { name := "bivariateSubstitutes", fn := fun _ => fun
  | [d1, d2, d3] => { results := [.lit (.bool true)], args := [d1, d2, d3] }
  | _ => none }
def bivariateSubstitutesRow : OpenClaim := { program := "ytjpcgjllmpdmhaa", sum := "d06344946cd8842b0483bbc7a48cf827d5f1302ea36099fcbd243603a253a8ec", func := "codewright/codewrightlaw40.BivariateSubstitutes", spec := "bivariateSubstitutes", unfollowed := true, recurses := true, apart := false }
def BivariateSubstitutesSaid : Prop := bivariateSubstitutesRow.holds Try.pinned (OpenSpec.ofChange bivariateSubstitutesSpec)

/-- ITS FALSE NEIGHBOUR: 'it returns false'. Refute it at one input. -/
def bivariateSubstitutesWrong : ChangeSpec := { name := "bivariateSubstitutes", fn := fun _ => fun
  | [d1, d2, d3] => { results := [.lit (.bool false)], args := [d1, d2, d3] }
  | _ => none }
def BivariateSubstitutesWrongFalsely : Prop := bivariateSubstitutesRow.holds Try.pinned (OpenSpec.ofChange bivariateSubstitutesWrong)

/-- 'codewrightlaw40.BivariateHasse': WHATEVER THE INPUT: true; the input reads as it did. -/
def bivariateHasseSpec : ChangeSpec := { name := "bivariateHasse", fn := fun _ => fun
  | [d1, d2, d3] => { results := [.lit (.bool true)], args := [d1, d2, d3] }
  | _ => none }
def bivariateHasseRow : OpenClaim := { program := "ytjpcgjllmpdmhaa", sum := "d06344946cd8842b0483bbc7a48cf827d5f1302ea36099fcbd243603a253a8ec", func := "codewright/codewrightlaw40.BivariateHasse", spec := "bivariateHasse", unfollowed := true, recurses := true, apart := false }
def BivariateHasseSaid : Prop := bivariateHasseRow.holds Try.pinned (OpenSpec.ofChange bivariateHasseSpec)

/-- ITS FALSE NEIGHBOUR: 'it returns false'. Refute it at one input. -/
def bivariateHasseWrong : ChangeSpec := { name := "bivariateHasse", fn := fun _ => fun
  | [d1, d2, d3] => { results := [.lit (.bool false)], args := [d1, d2, d3] }
  | _ => none }
def BivariateHasseWrongFalsely : Prop := bivariateHasseRow.holds Try.pinned (OpenSpec.ofChange bivariateHasseWrong)

/-- 'codewrightlaw40.BivariateTaylor': WHATEVER THE INPUT: true; the input reads as it did. -/
def bivariateTaylorSpec : ChangeSpec := { name := "bivariateTaylor", fn := fun _ => fun
  | [d1, d2, d3] => { results := [.lit (.bool true)], args := [d1, d2, d3] }
  | _ => none }
def bivariateTaylorRow : OpenClaim := { program := "ytjpcgjllmpdmhaa", sum := "d06344946cd8842b0483bbc7a48cf827d5f1302ea36099fcbd243603a253a8ec", func := "codewright/codewrightlaw40.BivariateTaylor", spec := "bivariateTaylor", unfollowed := true, recurses := true, apart := false }
def BivariateTaylorSaid : Prop := bivariateTaylorRow.holds Try.pinned (OpenSpec.ofChange bivariateTaylorSpec)

/-- ITS FALSE NEIGHBOUR: 'it returns false'. Refute it at one input. -/
def bivariateTaylorWrong : ChangeSpec := { name := "bivariateTaylor", fn := fun _ => fun
  | [d1, d2, d3] => { results := [.lit (.bool false)], args := [d1, d2, d3] }
  | _ => none }
def BivariateTaylorWrongFalsely : Prop := bivariateTaylorRow.holds Try.pinned (OpenSpec.ofChange bivariateTaylorWrong)

/-- 'codewrightlaw40.BivariateInterpolates': WHATEVER THE INPUT: true; the input reads as it did. -/
def bivariateInterpolatesSpec : ChangeSpec := { name := "bivariateInterpolates", fn := fun _ => fun
  | [d1, d2] => { results := [.lit (.bool true)], args := [d1, d2] }
  | _ => none }
def bivariateInterpolatesRow : OpenClaim := { program := "ytjpcgjllmpdmhaa", sum := "d06344946cd8842b0483bbc7a48cf827d5f1302ea36099fcbd243603a253a8ec", func := "codewright/codewrightlaw40.BivariateInterpolates", spec := "bivariateInterpolates", unfollowed := true, recurses := true, apart := false }
def BivariateInterpolatesSaid : Prop := bivariateInterpolatesRow.holds Try.pinned (OpenSpec.ofChange bivariateInterpolatesSpec)

/-- ITS FALSE NEIGHBOUR: 'it returns false'. Refute it at one input. -/
def bivariateInterpolatesWrong : ChangeSpec := { name := "bivariateInterpolates", fn := fun _ => fun
  | [d1, d2] => { results := [.lit (.bool false)], args := [d1, d2] }
  | _ => none }
def BivariateInterpolatesWrongFalsely : Prop := bivariateInterpolatesRow.holds Try.pinned (OpenSpec.ofChange bivariateInterpolatesWrong)

/-- 'codewrightlaw40.BivariateLeast': WHATEVER THE INPUT: true; the input reads as it did. -/
def bivariateLeastSpec : ChangeSpec := { name := "bivariateLeast", fn := fun _ => fun
  | [d1, d2, d3] => { results := [.lit (.bool true)], args := [d1, d2, d3] }
  | _ => none }
def bivariateLeastRow : OpenClaim := { program := "ytjpcgjllmpdmhaa", sum := "d06344946cd8842b0483bbc7a48cf827d5f1302ea36099fcbd243603a253a8ec", func := "codewright/codewrightlaw40.BivariateLeast", spec := "bivariateLeast", unfollowed := true, recurses := true, apart := false }
def BivariateLeastSaid : Prop := bivariateLeastRow.holds Try.pinned (OpenSpec.ofChange bivariateLeastSpec)

/-- ITS FALSE NEIGHBOUR: 'it returns false'. Refute it at one input. -/
def bivariateLeastWrong : ChangeSpec := { name := "bivariateLeast", fn := fun _ => fun
  | [d1, d2, d3] => { results := [.lit (.bool false)], args := [d1, d2, d3] }
  | _ => none }
def BivariateLeastWrongFalsely : Prop := bivariateLeastRow.holds Try.pinned (OpenSpec.ofChange bivariateLeastWrong)

/-- 'codewrightlaw40.BivariateCounts': WHATEVER THE INPUT: true; the input reads as it did. -/
def bivariateCountsSpec : ChangeSpec := { name := "bivariateCounts", fn := fun _ => fun
  | [d1, d2, d3] => { results := [.lit (.bool true)], args := [d1, d2, d3] }
  | _ => none }
def bivariateCountsRow : OpenClaim := { program := "ytjpcgjllmpdmhaa", sum := "d06344946cd8842b0483bbc7a48cf827d5f1302ea36099fcbd243603a253a8ec", func := "codewright/codewrightlaw40.BivariateCounts", spec := "bivariateCounts", unfollowed := true, recurses := true, apart := false }
def BivariateCountsSaid : Prop := bivariateCountsRow.holds Try.pinned (OpenSpec.ofChange bivariateCountsSpec)

/-- ITS FALSE NEIGHBOUR: 'it returns false'. Refute it at one input. -/
def bivariateCountsWrong : ChangeSpec := { name := "bivariateCounts", fn := fun _ => fun
  | [d1, d2, d3] => { results := [.lit (.bool false)], args := [d1, d2, d3] }
  | _ => none }
def BivariateCountsWrongFalsely : Prop := bivariateCountsRow.holds Try.pinned (OpenSpec.ofChange bivariateCountsWrong)

/- THE SECOND FORM. 'bulk': how many values and letters a reading holds, each counted each time it is reached (what is shared counts as often as it is met; a slice's spare places count too). A statement '..UptoSaid' is the law's where the arguments, and the package variables that the reading takes, are together of bulk at most 1048576: NARROWER than '..Said'. Prove '..Said' where nothing that the law and all that it calls make is longer than what came in: it says more and counts as full. Else prove '..UptoSaid'. A law counts once. -/
mutual
def uptoBulk {H : Type} : DataW H → Nat
  | .lit (.string bytes) => bytes.length + 1
  | .lit _ => 1
  | .nil => 1
  | .ptr d => uptoBulk d + 1
  | .slice elems spare => uptoBulkAll elems + uptoBulkAll spare + 1
  | .agg parts => uptoBulkAll parts + 1
  | .iface _ d => uptoBulk d + 1
  | .map entries => uptoBulkEntries entries + 1
  | .held _ => 1
def uptoBulkAll {H : Type} : List (DataW H) → Nat
  | [] => 0
  | d :: r => uptoBulk d + uptoBulkAll r
def uptoBulkEntries {H : Type} : List (Lit × DataW H) → Nat
  | [] => 0
  | x :: r => uptoBulkEntry x + uptoBulkEntries r
def uptoBulkEntry {H : Type} : Lit × DataW H → Nat
  | (.string bytes, d) => bytes.length + uptoBulk d + 1
  | (_, d) => uptoBulk d + 1
 end
def uptoSmall : (H : Type) → List (DataW H) → Bool := fun _ ds => decide (uptoBulkAll ds ≤ 1048576)
def OpenSpec.upto (s : _root_.Go.ChangeSpec) : _root_.Go.OpenSpec := { _root_.Go.OpenSpec.ofChange s with cond := some uptoSmall }

/-- 'codewrightlaw40.BivariateAdds', WHERE WHAT IT READS IS OF BULK AT MOST 1048576: true; the input reads as it did. -/
def bivariateAddsUptoRow : OpenClaim := { program := "ytjpcgjllmpdmhaa", sum := "d06344946cd8842b0483bbc7a48cf827d5f1302ea36099fcbd243603a253a8ec", func := "codewright/codewrightlaw40.BivariateAdds", spec := "bivariateAdds", unfollowed := true, recurses := true, apart := false, narrowed := true }
def BivariateAddsUptoSaid : Prop := bivariateAddsUptoRow.holds Try.pinned (OpenSpec.upto bivariateAddsSpec)

/-- 'codewrightlaw40.BivariateDegrees', WHERE WHAT IT READS IS OF BULK AT MOST 1048576: true; the input reads as it did. -/
def bivariateDegreesUptoRow : OpenClaim := { program := "ytjpcgjllmpdmhaa", sum := "d06344946cd8842b0483bbc7a48cf827d5f1302ea36099fcbd243603a253a8ec", func := "codewright/codewrightlaw40.BivariateDegrees", spec := "bivariateDegrees", unfollowed := true, recurses := true, apart := false, narrowed := true }
def BivariateDegreesUptoSaid : Prop := bivariateDegreesUptoRow.holds Try.pinned (OpenSpec.upto bivariateDegreesSpec)

/-- 'codewrightlaw40.BivariateMultiplicities', WHERE WHAT IT READS IS OF BULK AT MOST 1048576: true; the input reads as it did. -/
def bivariateMultiplicitiesUptoRow : OpenClaim := { program := "ytjpcgjllmpdmhaa", sum := "d06344946cd8842b0483bbc7a48cf827d5f1302ea36099fcbd243603a253a8ec", func := "codewright/codewrightlaw40.BivariateMultiplicities", spec := "bivariateMultiplicities", unfollowed := true, recurses := true, apart := false, narrowed := true }
def BivariateMultiplicitiesUptoSaid : Prop := bivariateMultiplicitiesUptoRow.holds Try.pinned (OpenSpec.upto bivariateMultiplicitiesSpec)

/-- 'codewrightlaw40.BivariateRoots', WHERE WHAT IT READS IS OF BULK AT MOST 1048576: true; the input reads as it did. -/
def bivariateRootsUptoRow : OpenClaim := { program := "ytjpcgjllmpdmhaa", sum := "d06344946cd8842b0483bbc7a48cf827d5f1302ea36099fcbd243603a253a8ec", func := "codewright/codewrightlaw40.BivariateRoots", spec := "bivariateRoots", unfollowed := true, recurses := true, apart := false, narrowed := true }
def BivariateRootsUptoSaid : Prop := bivariateRootsUptoRow.holds Try.pinned (OpenSpec.upto bivariateRootsSpec)

/-- 'codewrightlaw40.BivariateAllRoots', WHERE WHAT IT READS IS OF BULK AT MOST 1048576: true; the input reads as it did. -/
def bivariateAllRootsUptoRow : OpenClaim := { program := "ytjpcgjllmpdmhaa", sum := "d06344946cd8842b0483bbc7a48cf827d5f1302ea36099fcbd243603a253a8ec", func := "codewright/codewrightlaw40.BivariateAllRoots", spec := "bivariateAllRoots", unfollowed := true, recurses := true, apart := false, narrowed := true }
def BivariateAllRootsUptoSaid : Prop := bivariateAllRootsUptoRow.holds Try.pinned (OpenSpec.upto bivariateAllRootsSpec)

/-- 'codewrightlaw40.BivariateFactors', WHERE WHAT IT READS IS OF BULK AT MOST 1048576: true; the input reads as it did. -/
def bivariateFactorsUptoRow : OpenClaim := { program := "ytjpcgjllmpdmhaa", sum := "d06344946cd8842b0483bbc7a48cf827d5f1302ea36099fcbd243603a253a8ec", func := "codewright/codewrightlaw40.BivariateFactors", spec := "bivariateFactors", unfollowed := true, recurses := true, apart := false, narrowed := true }
def BivariateFactorsUptoSaid : Prop := bivariateFactorsUptoRow.holds Try.pinned (OpenSpec.upto bivariateFactorsSpec)

/-- 'codewrightlaw40.BivariateValues', WHERE WHAT IT READS IS OF BULK AT MOST 1048576: true; the input reads as it did. -/
def bivariateValuesUptoRow : OpenClaim := { program := "ytjpcgjllmpdmhaa", sum := "d06344946cd8842b0483bbc7a48cf827d5f1302ea36099fcbd243603a253a8ec", func := "codewright/codewrightlaw40.BivariateValues", spec := "bivariateValues", unfollowed := true, recurses := true, apart := false, narrowed := true }
def BivariateValuesUptoSaid : Prop := bivariateValuesUptoRow.holds Try.pinned (OpenSpec.upto bivariateValuesSpec)

/-- 'codewrightlaw40.BivariateSubstitutes', WHERE WHAT IT READS IS OF BULK AT MOST 1048576: true; the input reads as it did. -/
def bivariateSubstitutesUptoRow : OpenClaim := { program := "ytjpcgjllmpdmhaa", sum := "d06344946cd8842b0483bbc7a48cf827d5f1302ea36099fcbd243603a253a8ec", func := "codewright/codewrightlaw40.BivariateSubstitutes", spec := "bivariateSubstitutes", unfollowed := true, recurses := true, apart := false, narrowed := true }
def BivariateSubstitutesUptoSaid : Prop := bivariateSubstitutesUptoRow.holds Try.pinned (OpenSpec.upto bivariateSubstitutesSpec)

/-- 'codewrightlaw40.BivariateHasse', WHERE WHAT IT READS IS OF BULK AT MOST 1048576: true; the input reads as it did. -/
def bivariateHasseUptoRow : OpenClaim := { program := "ytjpcgjllmpdmhaa", sum := "d06344946cd8842b0483bbc7a48cf827d5f1302ea36099fcbd243603a253a8ec", func := "codewright/codewrightlaw40.BivariateHasse", spec := "bivariateHasse", unfollowed := true, recurses := true, apart := false, narrowed := true }
def BivariateHasseUptoSaid : Prop := bivariateHasseUptoRow.holds Try.pinned (OpenSpec.upto bivariateHasseSpec)

/-- 'codewrightlaw40.BivariateTaylor', WHERE WHAT IT READS IS OF BULK AT MOST 1048576: true; the input reads as it did. -/
def bivariateTaylorUptoRow : OpenClaim := { program := "ytjpcgjllmpdmhaa", sum := "d06344946cd8842b0483bbc7a48cf827d5f1302ea36099fcbd243603a253a8ec", func := "codewright/codewrightlaw40.BivariateTaylor", spec := "bivariateTaylor", unfollowed := true, recurses := true, apart := false, narrowed := true }
def BivariateTaylorUptoSaid : Prop := bivariateTaylorUptoRow.holds Try.pinned (OpenSpec.upto bivariateTaylorSpec)

/-- 'codewrightlaw40.BivariateInterpolates', WHERE WHAT IT READS IS OF BULK AT MOST 1048576: true; the input reads as it did. -/
def bivariateInterpolatesUptoRow : OpenClaim := { program := "ytjpcgjllmpdmhaa", sum := "d06344946cd8842b0483bbc7a48cf827d5f1302ea36099fcbd243603a253a8ec", func := "codewright/codewrightlaw40.BivariateInterpolates", spec := "bivariateInterpolates", unfollowed := true, recurses := true, apart := false, narrowed := true }
def BivariateInterpolatesUptoSaid : Prop := bivariateInterpolatesUptoRow.holds Try.pinned (OpenSpec.upto bivariateInterpolatesSpec)

/-- 'codewrightlaw40.BivariateLeast', WHERE WHAT IT READS IS OF BULK AT MOST 1048576: true; the input reads as it did. -/
def bivariateLeastUptoRow : OpenClaim := { program := "ytjpcgjllmpdmhaa", sum := "d06344946cd8842b0483bbc7a48cf827d5f1302ea36099fcbd243603a253a8ec", func := "codewright/codewrightlaw40.BivariateLeast", spec := "bivariateLeast", unfollowed := true, recurses := true, apart := false, narrowed := true }
def BivariateLeastUptoSaid : Prop := bivariateLeastUptoRow.holds Try.pinned (OpenSpec.upto bivariateLeastSpec)

/-- 'codewrightlaw40.BivariateCounts', WHERE WHAT IT READS IS OF BULK AT MOST 1048576: true; the input reads as it did. -/
def bivariateCountsUptoRow : OpenClaim := { program := "ytjpcgjllmpdmhaa", sum := "d06344946cd8842b0483bbc7a48cf827d5f1302ea36099fcbd243603a253a8ec", func := "codewright/codewrightlaw40.BivariateCounts", spec := "bivariateCounts", unfollowed := true, recurses := true, apart := false, narrowed := true }
def BivariateCountsUptoSaid : Prop := bivariateCountsUptoRow.holds Try.pinned (OpenSpec.upto bivariateCountsSpec)

end Rows
end Go.Proofs.Ytjpcgjllmpdmhaa
