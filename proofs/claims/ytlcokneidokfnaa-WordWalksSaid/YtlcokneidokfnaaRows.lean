/-
  No cell of these rows narrows 'for every input' (looked for: loops, veiled, ifaces, maps, wideKeys, modest, calm, conditions, laid).
  DERIVED. THE GIVEN ROWS OF THIS SEAT. 14 by the template 'for every input the law returns true; each argument reads behind the call as it read before'; 0 by the template 'total and deterministic' (their statements: YtlcokneidokfnaaTotals.lean).
  GIVEN WITH THE SEED: the statements are not yours to turn. If you find one false, say at which input.
  Laid BY PROGRAM, IN A SANDBOX (cutbox-rows.mjs): the forced cells as the released guide's own fill.sh prints them over the translation 3bea0723047fd456… (all of the seat's roots in one cut). By AI agents, Wed Nov 11 2026. No macro, syntax, notation, axiom, sorry.
-/
import Derived.Test.YtlcokneidokfnaaChecked
import GoSem.Claim
import GoSem.ClaimJoined
import GoSem.ClaimMapViews
import Derived.JoinedTies
import Derived.KernelRfl
namespace Go.Proofs.Ytlcokneidokfnaa
/- THE CELL 'sum', in the pinned program and in every row, IS THE sha256 OF THE DUMP (.gsa) THAT YtlcokneidokfnaaProg.lean LOADS. Nothing in Lean hashes anything: it is a label: what it is worth is what the hold of that sum in a sandbox is worth. -/
noncomputable def Try.pinned : Pinned := { name := "ytlcokneidokfnaa", sum := "3bea0723047fd4569658c3932a12512ba3ebfaa4c626f90ff73b6ae2e6e8f25f", checked := Try.checked }
namespace Rows
def none {H : Type} : Left H := { results := [], args := [] }

/-- 'codewrightlaw11.WordBinomials': WHATEVER THE INPUT: true; the input reads as it did. -/
def wordBinomialsSpec : ChangeSpec := { name := "wordBinomials", fn := fun _ => fun
  | [d1, d2] => { results := [.lit (.bool true)], args := [d1, d2] }
  | _ => none }
def wordBinomialsRow : OpenClaim := { program := "ytlcokneidokfnaa", sum := "3bea0723047fd4569658c3932a12512ba3ebfaa4c626f90ff73b6ae2e6e8f25f", func := "codewright/codewrightlaw11.WordBinomials", spec := "wordBinomials", apart := false }
def WordBinomialsSaid : Prop := wordBinomialsRow.holds Try.pinned (OpenSpec.ofChange wordBinomialsSpec)

/-- ITS FALSE NEIGHBOUR: 'it returns false'. Refute it at one input. -/
def wordBinomialsWrong : ChangeSpec := { name := "wordBinomials", fn := fun _ => fun
  | [d1, d2] => { results := [.lit (.bool false)], args := [d1, d2] }
  | _ => none }
def WordBinomialsWrongFalsely : Prop := wordBinomialsRow.holds Try.pinned (OpenSpec.ofChange wordBinomialsWrong)

/-- 'codewrightlaw11.WordOrder': WHATEVER THE INPUT: true; the input reads as it did. -/
def wordOrderSpec : ChangeSpec := { name := "wordOrder", fn := fun _ => fun
  | [d1, d2, d3] => { results := [.lit (.bool true)], args := [d1, d2, d3] }
  | _ => none }
def wordOrderRow : OpenClaim := { program := "ytlcokneidokfnaa", sum := "3bea0723047fd4569658c3932a12512ba3ebfaa4c626f90ff73b6ae2e6e8f25f", func := "codewright/codewrightlaw11.WordOrder", spec := "wordOrder", apart := false }
def WordOrderSaid : Prop := wordOrderRow.holds Try.pinned (OpenSpec.ofChange wordOrderSpec)

/-- ITS FALSE NEIGHBOUR: 'it returns false'. Refute it at one input. -/
def wordOrderWrong : ChangeSpec := { name := "wordOrder", fn := fun _ => fun
  | [d1, d2, d3] => { results := [.lit (.bool false)], args := [d1, d2, d3] }
  | _ => none }
def WordOrderWrongFalsely : Prop := wordOrderRow.holds Try.pinned (OpenSpec.ofChange wordOrderWrong)

/-- 'codewrightlaw11.WordRanks': WHATEVER THE INPUT: true; the input reads as it did. -/
def wordRanksSpec : ChangeSpec := { name := "wordRanks", fn := fun _ => fun
  | [d1, d2] => { results := [.lit (.bool true)], args := [d1, d2] }
  | _ => none }
def wordRanksRow : OpenClaim := { program := "ytlcokneidokfnaa", sum := "3bea0723047fd4569658c3932a12512ba3ebfaa4c626f90ff73b6ae2e6e8f25f", func := "codewright/codewrightlaw11.WordRanks", spec := "wordRanks", apart := false }
def WordRanksSaid : Prop := wordRanksRow.holds Try.pinned (OpenSpec.ofChange wordRanksSpec)

/-- ITS FALSE NEIGHBOUR: 'it returns false'. Refute it at one input. -/
def wordRanksWrong : ChangeSpec := { name := "wordRanks", fn := fun _ => fun
  | [d1, d2] => { results := [.lit (.bool false)], args := [d1, d2] }
  | _ => none }
def WordRanksWrongFalsely : Prop := wordRanksRow.holds Try.pinned (OpenSpec.ofChange wordRanksWrong)

/-- 'codewrightlaw11.WordUnranks': WHATEVER THE INPUT: true; the input reads as it did. -/
def wordUnranksSpec : ChangeSpec := { name := "wordUnranks", fn := fun _ => fun
  | [d1, d2, d3] => { results := [.lit (.bool true)], args := [d1, d2, d3] }
  | _ => none }
def wordUnranksRow : OpenClaim := { program := "ytlcokneidokfnaa", sum := "3bea0723047fd4569658c3932a12512ba3ebfaa4c626f90ff73b6ae2e6e8f25f", func := "codewright/codewrightlaw11.WordUnranks", spec := "wordUnranks", apart := false }
def WordUnranksSaid : Prop := wordUnranksRow.holds Try.pinned (OpenSpec.ofChange wordUnranksSpec)

/-- ITS FALSE NEIGHBOUR: 'it returns false'. Refute it at one input. -/
def wordUnranksWrong : ChangeSpec := { name := "wordUnranks", fn := fun _ => fun
  | [d1, d2, d3] => { results := [.lit (.bool false)], args := [d1, d2, d3] }
  | _ => none }
def WordUnranksWrongFalsely : Prop := wordUnranksRow.holds Try.pinned (OpenSpec.ofChange wordUnranksWrong)

/-- 'codewrightlaw11.WordSubsets': WHATEVER THE INPUT: true; the input reads as it did. -/
def wordSubsetsSpec : ChangeSpec := { name := "wordSubsets", fn := fun _ => fun
  | [d1, d2] => { results := [.lit (.bool true)], args := [d1, d2] }
  | _ => none }
def wordSubsetsRow : OpenClaim := { program := "ytlcokneidokfnaa", sum := "3bea0723047fd4569658c3932a12512ba3ebfaa4c626f90ff73b6ae2e6e8f25f", func := "codewright/codewrightlaw11.WordSubsets", spec := "wordSubsets", apart := false }
def WordSubsetsSaid : Prop := wordSubsetsRow.holds Try.pinned (OpenSpec.ofChange wordSubsetsSpec)

/-- ITS FALSE NEIGHBOUR: 'it returns false'. Refute it at one input. -/
def wordSubsetsWrong : ChangeSpec := { name := "wordSubsets", fn := fun _ => fun
  | [d1, d2] => { results := [.lit (.bool false)], args := [d1, d2] }
  | _ => none }
def WordSubsetsWrongFalsely : Prop := wordSubsetsRow.holds Try.pinned (OpenSpec.ofChange wordSubsetsWrong)

/-- 'codewrightlaw11.WordCleans': WHATEVER THE INPUT: true; the input reads as it did. -/
def wordCleansSpec : ChangeSpec := { name := "wordCleans", fn := fun _ => fun
  | [d1, d2] => { results := [.lit (.bool true)], args := [d1, d2] }
  | _ => none }
def wordCleansRow : OpenClaim := { program := "ytlcokneidokfnaa", sum := "3bea0723047fd4569658c3932a12512ba3ebfaa4c626f90ff73b6ae2e6e8f25f", func := "codewright/codewrightlaw11.WordCleans", spec := "wordCleans", apart := false }
def WordCleansSaid : Prop := wordCleansRow.holds Try.pinned (OpenSpec.ofChange wordCleansSpec)

/-- ITS FALSE NEIGHBOUR: 'it returns false'. Refute it at one input. -/
def wordCleansWrong : ChangeSpec := { name := "wordCleans", fn := fun _ => fun
  | [d1, d2] => { results := [.lit (.bool false)], args := [d1, d2] }
  | _ => none }
def WordCleansWrongFalsely : Prop := wordCleansRow.holds Try.pinned (OpenSpec.ofChange wordCleansWrong)

/-- 'codewrightlaw11.WordAdds': WHATEVER THE INPUT: true; the input reads as it did. -/
def wordAddsSpec : ChangeSpec := { name := "wordAdds", fn := fun _ => fun
  | [d1, d2, d3] => { results := [.lit (.bool true)], args := [d1, d2, d3] }
  | _ => none }
def wordAddsRow : OpenClaim := { program := "ytlcokneidokfnaa", sum := "3bea0723047fd4569658c3932a12512ba3ebfaa4c626f90ff73b6ae2e6e8f25f", func := "codewright/codewrightlaw11.WordAdds", spec := "wordAdds", unfollowed := true, recurses := true, apart := false }
def WordAddsSaid : Prop := wordAddsRow.holds Try.pinned (OpenSpec.ofChange wordAddsSpec)

/-- ITS FALSE NEIGHBOUR: 'it returns false'. Refute it at one input. -/
def wordAddsWrong : ChangeSpec := { name := "wordAdds", fn := fun _ => fun
  | [d1, d2, d3] => { results := [.lit (.bool false)], args := [d1, d2, d3] }
  | _ => none }
def WordAddsWrongFalsely : Prop := wordAddsRow.holds Try.pinned (OpenSpec.ofChange wordAddsWrong)

/-- 'codewrightlaw11.WordSteps': WHATEVER THE INPUT: true; the input reads as it did. -/
def wordStepsSpec : ChangeSpec := { name := "wordSteps", fn := fun _ => fun
  | [d1, d2] => { results := [.lit (.bool true)], args := [d1, d2] }
  | _ => none }
def wordStepsRow : OpenClaim := { program := "ytlcokneidokfnaa", sum := "3bea0723047fd4569658c3932a12512ba3ebfaa4c626f90ff73b6ae2e6e8f25f", func := "codewright/codewrightlaw11.WordSteps", spec := "wordSteps", apart := false }
def WordStepsSaid : Prop := wordStepsRow.holds Try.pinned (OpenSpec.ofChange wordStepsSpec)

/-- ITS FALSE NEIGHBOUR: 'it returns false'. Refute it at one input. -/
def wordStepsWrong : ChangeSpec := { name := "wordSteps", fn := fun _ => fun
  | [d1, d2] => { results := [.lit (.bool false)], args := [d1, d2] }
  | _ => none }
def WordStepsWrongFalsely : Prop := wordStepsRow.holds Try.pinned (OpenSpec.ofChange wordStepsWrong)

/-- 'codewrightlaw11.WordInner': WHATEVER THE INPUT: true; the input reads as it did. -/
def wordInnerSpec : ChangeSpec := { name := "wordInner", fn := fun _ => fun
  | [d] => { results := [.lit (.bool true)], args := [d] }
  | _ => none }
def wordInnerRow : OpenClaim := { program := "ytlcokneidokfnaa", sum := "3bea0723047fd4569658c3932a12512ba3ebfaa4c626f90ff73b6ae2e6e8f25f", func := "codewright/codewrightlaw11.WordInner", spec := "wordInner", unfollowed := true, recurses := true, apart := false }
def WordInnerSaid : Prop := wordInnerRow.holds Try.pinned (OpenSpec.ofChange wordInnerSpec)

/-- ITS FALSE NEIGHBOUR: 'it returns false'. Refute it at one input. -/
def wordInnerWrong : ChangeSpec := { name := "wordInner", fn := fun _ => fun
  | [d] => { results := [.lit (.bool false)], args := [d] }
  | _ => none }
def WordInnerWrongFalsely : Prop := wordInnerRow.holds Try.pinned (OpenSpec.ofChange wordInnerWrong)

/-- 'codewrightlaw11.WordNumbers': WHATEVER THE INPUT: true; the input reads as it did. -/
def wordNumbersSpec : ChangeSpec := { name := "wordNumbers", fn := fun _ => fun
  | [d1, d2, d3] => { results := [.lit (.bool true)], args := [d1, d2, d3] }
  | _ => none }
def wordNumbersRow : OpenClaim := { program := "ytlcokneidokfnaa", sum := "3bea0723047fd4569658c3932a12512ba3ebfaa4c626f90ff73b6ae2e6e8f25f", func := "codewright/codewrightlaw11.WordNumbers", spec := "wordNumbers", apart := false }
def WordNumbersSaid : Prop := wordNumbersRow.holds Try.pinned (OpenSpec.ofChange wordNumbersSpec)

/-- ITS FALSE NEIGHBOUR: 'it returns false'. Refute it at one input. -/
def wordNumbersWrong : ChangeSpec := { name := "wordNumbers", fn := fun _ => fun
  | [d1, d2, d3] => { results := [.lit (.bool false)], args := [d1, d2, d3] }
  | _ => none }
def WordNumbersWrongFalsely : Prop := wordNumbersRow.holds Try.pinned (OpenSpec.ofChange wordNumbersWrong)

/-- 'codewrightlaw11.WordTriangle': WHATEVER THE INPUT: true; the input reads as it did. -/
def wordTriangleSpec : ChangeSpec := { name := "wordTriangle", fn := fun _ => fun
  | [d] => { results := [.lit (.bool true)], args := [d] }
  | _ => none }
def wordTriangleRow : OpenClaim := { program := "ytlcokneidokfnaa", sum := "3bea0723047fd4569658c3932a12512ba3ebfaa4c626f90ff73b6ae2e6e8f25f", func := "codewright/codewrightlaw11.WordTriangle", spec := "wordTriangle", unfollowed := true, recurses := true, apart := false }
def WordTriangleSaid : Prop := wordTriangleRow.holds Try.pinned (OpenSpec.ofChange wordTriangleSpec)

/-- ITS FALSE NEIGHBOUR: 'it returns false'. Refute it at one input. -/
def wordTriangleWrong : ChangeSpec := { name := "wordTriangle", fn := fun _ => fun
  | [d] => { results := [.lit (.bool false)], args := [d] }
  | _ => none }
def WordTriangleWrongFalsely : Prop := wordTriangleRow.holds Try.pinned (OpenSpec.ofChange wordTriangleWrong)

/-- 'codewrightlaw11.WordMeasures': WHATEVER THE INPUT: true; the input reads as it did. -/
def wordMeasuresSpec : ChangeSpec := { name := "wordMeasures", fn := fun _ => fun
  | [d1, d2, d3] => { results := [.lit (.bool true)], args := [d1, d2, d3] }
  | _ => none }
def wordMeasuresRow : OpenClaim := { program := "ytlcokneidokfnaa", sum := "3bea0723047fd4569658c3932a12512ba3ebfaa4c626f90ff73b6ae2e6e8f25f", func := "codewright/codewrightlaw11.WordMeasures", spec := "wordMeasures", unfollowed := true, recurses := true, apart := false }
def WordMeasuresSaid : Prop := wordMeasuresRow.holds Try.pinned (OpenSpec.ofChange wordMeasuresSpec)

/-- ITS FALSE NEIGHBOUR: 'it returns false'. Refute it at one input. -/
def wordMeasuresWrong : ChangeSpec := { name := "wordMeasures", fn := fun _ => fun
  | [d1, d2, d3] => { results := [.lit (.bool false)], args := [d1, d2, d3] }
  | _ => none }
def WordMeasuresWrongFalsely : Prop := wordMeasuresRow.holds Try.pinned (OpenSpec.ofChange wordMeasuresWrong)

/-- 'codewrightlaw11.WordWalks': WHATEVER THE INPUT: true; the input reads as it did. -/
def wordWalksSpec : ChangeSpec := { name := "wordWalks", fn := fun _ => fun
  | [d1, d2] => { results := [.lit (.bool true)], args := [d1, d2] }
  | _ => none }
def wordWalksRow : OpenClaim := { program := "ytlcokneidokfnaa", sum := "3bea0723047fd4569658c3932a12512ba3ebfaa4c626f90ff73b6ae2e6e8f25f", func := "codewright/codewrightlaw11.WordWalks", spec := "wordWalks", unfollowed := true, recurses := true, apart := false }
def WordWalksSaid : Prop := wordWalksRow.holds Try.pinned (OpenSpec.ofChange wordWalksSpec)

/-- ITS FALSE NEIGHBOUR: 'it returns false'. Refute it at one input. -/
def wordWalksWrong : ChangeSpec := { name := "wordWalks", fn := fun _ => fun
  | [d1, d2] => { results := [.lit (.bool false)], args := [d1, d2] }
  | _ => none }
def WordWalksWrongFalsely : Prop := wordWalksRow.holds Try.pinned (OpenSpec.ofChange wordWalksWrong)

/-- 'codewrightlaw11.WordIndexes': WHATEVER THE INPUT: true; the input reads as it did. -/
def wordIndexesSpec : ChangeSpec := { name := "wordIndexes", fn := fun _ => fun
  | [d1, d2, d3] => { results := [.lit (.bool true)], args := [d1, d2, d3] }
  | _ => none }
def wordIndexesRow : OpenClaim := { program := "ytlcokneidokfnaa", sum := "3bea0723047fd4569658c3932a12512ba3ebfaa4c626f90ff73b6ae2e6e8f25f", func := "codewright/codewrightlaw11.WordIndexes", spec := "wordIndexes", apart := false }
def WordIndexesSaid : Prop := wordIndexesRow.holds Try.pinned (OpenSpec.ofChange wordIndexesSpec)

/-- ITS FALSE NEIGHBOUR: 'it returns false'. Refute it at one input. -/
def wordIndexesWrong : ChangeSpec := { name := "wordIndexes", fn := fun _ => fun
  | [d1, d2, d3] => { results := [.lit (.bool false)], args := [d1, d2, d3] }
  | _ => none }
def WordIndexesWrongFalsely : Prop := wordIndexesRow.holds Try.pinned (OpenSpec.ofChange wordIndexesWrong)

/- THE SECOND FORM. 'bulk': how many values and letters a reading holds, each counted each time it is reached (what is shared counts as often as it is met; a slice's spare places count too). A statement '..UptoSaid' is the law's where the arguments, and the package variables that the reading takes, are together of bulk at most 1048576: NARROWER than '..Said'. Prove '..Said' where nothing that the law and all that it calls make is longer than what came in: it says more and counts as full. Else prove '..UptoSaid'. A law counts once. -/
mutual
def uptoBulk {H : Type} : DataW H → Nat
  | .lit (.string bytes) => bytes.length + 1
  | .lit _ => 1
  | .nil => 1
  | .ptr d => uptoBulk d + 1
  | .slice elems spare => uptoBulkAll elems + uptoBulkAll spare + 1
  | .agg parts => uptoBulkAll parts + 1
  | .iface _ d => uptoBulk d + 1
  | .map entries => uptoBulkEntries entries + 1
  | .held _ => 1
def uptoBulkAll {H : Type} : List (DataW H) → Nat
  | [] => 0
  | d :: r => uptoBulk d + uptoBulkAll r
def uptoBulkEntries {H : Type} : List (Lit × DataW H) → Nat
  | [] => 0
  | x :: r => uptoBulkEntry x + uptoBulkEntries r
def uptoBulkEntry {H : Type} : Lit × DataW H → Nat
  | (.string bytes, d) => bytes.length + uptoBulk d + 1
  | (_, d) => uptoBulk d + 1
 end
def uptoSmall : (H : Type) → List (DataW H) → Bool := fun _ ds => decide (uptoBulkAll ds ≤ 1048576)
def OpenSpec.upto (s : _root_.Go.ChangeSpec) : _root_.Go.OpenSpec := { _root_.Go.OpenSpec.ofChange s with cond := some uptoSmall }

/-- 'codewrightlaw11.WordBinomials', WHERE WHAT IT READS IS OF BULK AT MOST 1048576: true; the input reads as it did. -/
def wordBinomialsUptoRow : OpenClaim := { program := "ytlcokneidokfnaa", sum := "3bea0723047fd4569658c3932a12512ba3ebfaa4c626f90ff73b6ae2e6e8f25f", func := "codewright/codewrightlaw11.WordBinomials", spec := "wordBinomials", apart := false, narrowed := true }
def WordBinomialsUptoSaid : Prop := wordBinomialsUptoRow.holds Try.pinned (OpenSpec.upto wordBinomialsSpec)

/-- 'codewrightlaw11.WordOrder', WHERE WHAT IT READS IS OF BULK AT MOST 1048576: true; the input reads as it did. -/
def wordOrderUptoRow : OpenClaim := { program := "ytlcokneidokfnaa", sum := "3bea0723047fd4569658c3932a12512ba3ebfaa4c626f90ff73b6ae2e6e8f25f", func := "codewright/codewrightlaw11.WordOrder", spec := "wordOrder", apart := false, narrowed := true }
def WordOrderUptoSaid : Prop := wordOrderUptoRow.holds Try.pinned (OpenSpec.upto wordOrderSpec)

/-- 'codewrightlaw11.WordRanks', WHERE WHAT IT READS IS OF BULK AT MOST 1048576: true; the input reads as it did. -/
def wordRanksUptoRow : OpenClaim := { program := "ytlcokneidokfnaa", sum := "3bea0723047fd4569658c3932a12512ba3ebfaa4c626f90ff73b6ae2e6e8f25f", func := "codewright/codewrightlaw11.WordRanks", spec := "wordRanks", apart := false, narrowed := true }
def WordRanksUptoSaid : Prop := wordRanksUptoRow.holds Try.pinned (OpenSpec.upto wordRanksSpec)

/-- 'codewrightlaw11.WordUnranks', WHERE WHAT IT READS IS OF BULK AT MOST 1048576: true; the input reads as it did. -/
def wordUnranksUptoRow : OpenClaim := { program := "ytlcokneidokfnaa", sum := "3bea0723047fd4569658c3932a12512ba3ebfaa4c626f90ff73b6ae2e6e8f25f", func := "codewright/codewrightlaw11.WordUnranks", spec := "wordUnranks", apart := false, narrowed := true }
def WordUnranksUptoSaid : Prop := wordUnranksUptoRow.holds Try.pinned (OpenSpec.upto wordUnranksSpec)

/-- 'codewrightlaw11.WordSubsets', WHERE WHAT IT READS IS OF BULK AT MOST 1048576: true; the input reads as it did. -/
def wordSubsetsUptoRow : OpenClaim := { program := "ytlcokneidokfnaa", sum := "3bea0723047fd4569658c3932a12512ba3ebfaa4c626f90ff73b6ae2e6e8f25f", func := "codewright/codewrightlaw11.WordSubsets", spec := "wordSubsets", apart := false, narrowed := true }
def WordSubsetsUptoSaid : Prop := wordSubsetsUptoRow.holds Try.pinned (OpenSpec.upto wordSubsetsSpec)

/-- 'codewrightlaw11.WordCleans', WHERE WHAT IT READS IS OF BULK AT MOST 1048576: true; the input reads as it did. -/
def wordCleansUptoRow : OpenClaim := { program := "ytlcokneidokfnaa", sum := "3bea0723047fd4569658c3932a12512ba3ebfaa4c626f90ff73b6ae2e6e8f25f", func := "codewright/codewrightlaw11.WordCleans", spec := "wordCleans", apart := false, narrowed := true }
def WordCleansUptoSaid : Prop := wordCleansUptoRow.holds Try.pinned (OpenSpec.upto wordCleansSpec)

/-- 'codewrightlaw11.WordAdds', WHERE WHAT IT READS IS OF BULK AT MOST 1048576: true; the input reads as it did. -/
def wordAddsUptoRow : OpenClaim := { program := "ytlcokneidokfnaa", sum := "3bea0723047fd4569658c3932a12512ba3ebfaa4c626f90ff73b6ae2e6e8f25f", func := "codewright/codewrightlaw11.WordAdds", spec := "wordAdds", unfollowed := true, recurses := true, apart := false, narrowed := true }
def WordAddsUptoSaid : Prop := wordAddsUptoRow.holds Try.pinned (OpenSpec.upto wordAddsSpec)

/-- 'codewrightlaw11.WordSteps', WHERE WHAT IT READS IS OF BULK AT MOST 1048576: true; the input reads as it did. -/
def wordStepsUptoRow : OpenClaim := { program := "ytlcokneidokfnaa", sum := "3bea0723047fd4569658c3932a12512ba3ebfaa4c626f90ff73b6ae2e6e8f25f", func := "codewright/codewrightlaw11.WordSteps", spec := "wordSteps", apart := false, narrowed := true }
def WordStepsUptoSaid : Prop := wordStepsUptoRow.holds Try.pinned (OpenSpec.upto wordStepsSpec)

/-- 'codewrightlaw11.WordInner', WHERE WHAT IT READS IS OF BULK AT MOST 1048576: true; the input reads as it did. -/
def wordInnerUptoRow : OpenClaim := { program := "ytlcokneidokfnaa", sum := "3bea0723047fd4569658c3932a12512ba3ebfaa4c626f90ff73b6ae2e6e8f25f", func := "codewright/codewrightlaw11.WordInner", spec := "wordInner", unfollowed := true, recurses := true, apart := false, narrowed := true }
def WordInnerUptoSaid : Prop := wordInnerUptoRow.holds Try.pinned (OpenSpec.upto wordInnerSpec)

/-- 'codewrightlaw11.WordNumbers', WHERE WHAT IT READS IS OF BULK AT MOST 1048576: true; the input reads as it did. -/
def wordNumbersUptoRow : OpenClaim := { program := "ytlcokneidokfnaa", sum := "3bea0723047fd4569658c3932a12512ba3ebfaa4c626f90ff73b6ae2e6e8f25f", func := "codewright/codewrightlaw11.WordNumbers", spec := "wordNumbers", apart := false, narrowed := true }
def WordNumbersUptoSaid : Prop := wordNumbersUptoRow.holds Try.pinned (OpenSpec.upto wordNumbersSpec)

/-- 'codewrightlaw11.WordTriangle', WHERE WHAT IT READS IS OF BULK AT MOST 1048576: true; the input reads as it did. -/
def wordTriangleUptoRow : OpenClaim := { program := "ytlcokneidokfnaa", sum := "3bea0723047fd4569658c3932a12512ba3ebfaa4c626f90ff73b6ae2e6e8f25f", func := "codewright/codewrightlaw11.WordTriangle", spec := "wordTriangle", unfollowed := true, recurses := true, apart := false, narrowed := true }
def WordTriangleUptoSaid : Prop := wordTriangleUptoRow.holds Try.pinned (OpenSpec.upto wordTriangleSpec)

/-- 'codewrightlaw11.WordMeasures', WHERE WHAT IT READS IS OF BULK AT MOST 1048576: true; the input reads as it did. -/
def wordMeasuresUptoRow : OpenClaim := { program := "ytlcokneidokfnaa", sum := "3bea0723047fd4569658c3932a12512ba3ebfaa4c626f90ff73b6ae2e6e8f25f", func := "codewright/codewrightlaw11.WordMeasures", spec := "wordMeasures", unfollowed := true, recurses := true, apart := false, narrowed := true }
def WordMeasuresUptoSaid : Prop := wordMeasuresUptoRow.holds Try.pinned (OpenSpec.upto wordMeasuresSpec)

/-- 'codewrightlaw11.WordWalks', WHERE WHAT IT READS IS OF BULK AT MOST 1048576: true; the input reads as it did. -/
def wordWalksUptoRow : OpenClaim := { program := "ytlcokneidokfnaa", sum := "3bea0723047fd4569658c3932a12512ba3ebfaa4c626f90ff73b6ae2e6e8f25f", func := "codewright/codewrightlaw11.WordWalks", spec := "wordWalks", unfollowed := true, recurses := true, apart := false, narrowed := true }
def WordWalksUptoSaid : Prop := wordWalksUptoRow.holds Try.pinned (OpenSpec.upto wordWalksSpec)

/-- 'codewrightlaw11.WordIndexes', WHERE WHAT IT READS IS OF BULK AT MOST 1048576: true; the input reads as it did. -/
def wordIndexesUptoRow : OpenClaim := { program := "ytlcokneidokfnaa", sum := "3bea0723047fd4569658c3932a12512ba3ebfaa4c626f90ff73b6ae2e6e8f25f", func := "codewright/codewrightlaw11.WordIndexes", spec := "wordIndexes", apart := false, narrowed := true }
def WordIndexesUptoSaid : Prop := wordIndexesUptoRow.holds Try.pinned (OpenSpec.upto wordIndexesSpec)

end Rows
end Go.Proofs.Ytlcokneidokfnaa
