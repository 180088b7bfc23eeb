/-
  No cell of these rows narrows 'for every input' (looked for: loops, veiled, ifaces, maps, wideKeys, modest, calm, conditions, laid).
  DERIVED. THE GIVEN ROWS OF THIS SEAT. 3 by the template 'for every input the law returns true; each argument reads behind the call as it read before'; 0 by the template 'total and deterministic' (their statements: YtmnojknfjbimdaaTotals.lean).
  GIVEN WITH THE SEED: the statements are not yours to turn. If you find one false, say at which input.
  Laid BY PROGRAM, IN A SANDBOX (cutbox-rows.mjs): the forced cells as the released guide's own fill.sh prints them over the translation ada5042db6ccc3b2… (all of the seat's roots in one cut). By AI agents, Wed Nov 11 2026. No macro, syntax, notation, axiom, sorry.
-/
import Derived.Test.YtmnojknfjbimdaaChecked
import GoSem.Claim
import GoSem.ClaimJoined
import GoSem.ClaimMapViews
import Derived.JoinedTies
import Derived.KernelRfl
namespace Go.Proofs.Ytmnojknfjbimdaa
/- THE CELL 'sum', in the pinned program and in every row, IS THE sha256 OF THE DUMP (.gsa) THAT YtmnojknfjbimdaaProg.lean LOADS. Nothing in Lean hashes anything: it is a label: what it is worth is what the hold of that sum in a sandbox is worth. -/
noncomputable def Try.pinned : Pinned := { name := "ytmnojknfjbimdaa", sum := "ada5042db6ccc3b27dda0f8dd09be60f956f74b4f1f99aa1ae49116a59785a77", checked := Try.checked }
namespace Rows
def none {H : Type} : Left H := { results := [], args := [] }

/-- 'codewrightlaw41.ListdecodeParams': WHATEVER THE INPUT: true; the input reads as it did. -/
def listdecodeParamsSpec : ChangeSpec := { name := "listdecodeParams", fn := fun _ => fun
  | [d1, d2, d3] => { results := [.lit (.bool true)], args := [d1, d2, d3] }
  | _ => none }
def listdecodeParamsRow : OpenClaim := { program := "ytmnojknfjbimdaa", sum := "ada5042db6ccc3b27dda0f8dd09be60f956f74b4f1f99aa1ae49116a59785a77", func := "codewright/codewrightlaw41.ListdecodeParams", spec := "listdecodeParams", apart := false }
def ListdecodeParamsSaid : Prop := listdecodeParamsRow.holds Try.pinned (OpenSpec.ofChange listdecodeParamsSpec)

/-- ITS FALSE NEIGHBOUR: 'it returns false'. Refute it at one input. -/
def listdecodeParamsWrong : ChangeSpec := { name := "listdecodeParams", fn := fun _ => fun
  | [d1, d2, d3] => { results := [.lit (.bool false)], args := [d1, d2, d3] }
  | _ => none }
def ListdecodeParamsWrongFalsely : Prop := listdecodeParamsRow.holds Try.pinned (OpenSpec.ofChange listdecodeParamsWrong)

/-- 'codewrightlaw41.ListdecodeLimit': WHATEVER THE INPUT: true; the input reads as it did. -/
def listdecodeLimitSpec : ChangeSpec := { name := "listdecodeLimit", fn := fun _ => fun
  | [d1, d2, d3] => { results := [.lit (.bool true)], args := [d1, d2, d3] }
  | _ => none }
def listdecodeLimitRow : OpenClaim := { program := "ytmnojknfjbimdaa", sum := "ada5042db6ccc3b27dda0f8dd09be60f956f74b4f1f99aa1ae49116a59785a77", func := "codewright/codewrightlaw41.ListdecodeLimit", spec := "listdecodeLimit", apart := false }
def ListdecodeLimitSaid : Prop := listdecodeLimitRow.holds Try.pinned (OpenSpec.ofChange listdecodeLimitSpec)

/-- ITS FALSE NEIGHBOUR: 'it returns false'. Refute it at one input. -/
def listdecodeLimitWrong : ChangeSpec := { name := "listdecodeLimit", fn := fun _ => fun
  | [d1, d2, d3] => { results := [.lit (.bool false)], args := [d1, d2, d3] }
  | _ => none }
def ListdecodeLimitWrongFalsely : Prop := listdecodeLimitRow.holds Try.pinned (OpenSpec.ofChange listdecodeLimitWrong)

/-- 'codewrightlaw41.ListdecodeInterpolates': WHATEVER THE INPUT: true; the input reads as it did. -/
def listdecodeInterpolatesSpec : ChangeSpec := { name := "listdecodeInterpolates", fn := fun _ => fun
  | [d] => { results := [.lit (.bool true)], args := [d] }
  | _ => none }
def listdecodeInterpolatesRow : OpenClaim := { program := "ytmnojknfjbimdaa", sum := "ada5042db6ccc3b27dda0f8dd09be60f956f74b4f1f99aa1ae49116a59785a77", func := "codewright/codewrightlaw41.ListdecodeInterpolates", spec := "listdecodeInterpolates", apart := false }
def ListdecodeInterpolatesSaid : Prop := listdecodeInterpolatesRow.holds Try.pinned (OpenSpec.ofChange listdecodeInterpolatesSpec)

/-- ITS FALSE NEIGHBOUR: 'it returns false'. Refute it at one input. -/
def listdecodeInterpolatesWrong : ChangeSpec := { name := "listdecodeInterpolates", fn := fun _ => fun
  | [d] => { results := [.lit (.bool false)], args := [d] }
  | _ => none }
def ListdecodeInterpolatesWrongFalsely : Prop := listdecodeInterpolatesRow.holds Try.pinned (OpenSpec.ofChange listdecodeInterpolatesWrong)

/- THE SECOND FORM. 'bulk': how many values and letters a reading holds, each counted each time it is reached (what is shared counts as often as it is met; a slice's spare places count too). A statement '..UptoSaid' is the law's where the arguments, and the package variables that the reading takes, are together of bulk at most 1048576: NARROWER than '..Said'. Prove '..Said' where nothing that the law and all that it calls make is longer than what came in: it says more and counts as full. Else prove '..UptoSaid'. A law counts once. -/
mutual
def uptoBulk {H : Type} : DataW H → Nat
  | .lit (.string bytes) => bytes.length + 1
  | .lit _ => 1
  | .nil => 1
  | .ptr d => uptoBulk d + 1
  | .slice elems spare => uptoBulkAll elems + uptoBulkAll spare + 1
  | .agg parts => uptoBulkAll parts + 1
  | .iface _ d => uptoBulk d + 1
  | .map entries => uptoBulkEntries entries + 1
  | .held _ => 1
def uptoBulkAll {H : Type} : List (DataW H) → Nat
  | [] => 0
  | d :: r => uptoBulk d + uptoBulkAll r
def uptoBulkEntries {H : Type} : List (Lit × DataW H) → Nat
  | [] => 0
  | x :: r => uptoBulkEntry x + uptoBulkEntries r
def uptoBulkEntry {H : Type} : Lit × DataW H → Nat
  | (.string bytes, d) => bytes.length + uptoBulk d + 1
  | (_, d) => uptoBulk d + 1
 end
def uptoSmall : (H : Type) → List (DataW H) → Bool := fun _ ds => decide (uptoBulkAll ds ≤ 1048576)
def OpenSpec.upto (s : _root_.Go.ChangeSpec) : _root_.Go.OpenSpec := { _root_.Go.OpenSpec.ofChange s with cond := some uptoSmall }

/-- 'codewrightlaw41.ListdecodeParams', WHERE WHAT IT READS IS OF BULK AT MOST 1048576: true; the input reads as it did. -/
def listdecodeParamsUptoRow : OpenClaim := { program := "ytmnojknfjbimdaa", sum := "ada5042db6ccc3b27dda0f8dd09be60f956f74b4f1f99aa1ae49116a59785a77", func := "codewright/codewrightlaw41.ListdecodeParams", spec := "listdecodeParams", apart := false, narrowed := true }
def ListdecodeParamsUptoSaid : Prop := listdecodeParamsUptoRow.holds Try.pinned (OpenSpec.upto listdecodeParamsSpec)

/-- 'codewrightlaw41.ListdecodeLimit', WHERE WHAT IT READS IS OF BULK AT MOST 1048576: true; the input reads as it did. -/
def listdecodeLimitUptoRow : OpenClaim := { program := "ytmnojknfjbimdaa", sum := "ada5042db6ccc3b27dda0f8dd09be60f956f74b4f1f99aa1ae49116a59785a77", func := "codewright/codewrightlaw41.ListdecodeLimit", spec := "listdecodeLimit", apart := false, narrowed := true }
def ListdecodeLimitUptoSaid : Prop := listdecodeLimitUptoRow.holds Try.pinned (OpenSpec.upto listdecodeLimitSpec)

/-- 'codewrightlaw41.ListdecodeInterpolates', WHERE WHAT IT READS IS OF BULK AT MOST 1048576: true; the input reads as it did. -/
def listdecodeInterpolatesUptoRow : OpenClaim := { program := "ytmnojknfjbimdaa", sum := "ada5042db6ccc3b27dda0f8dd09be60f956f74b4f1f99aa1ae49116a59785a77", func := "codewright/codewrightlaw41.ListdecodeInterpolates", spec := "listdecodeInterpolates", apart := false, narrowed := true }
def ListdecodeInterpolatesUptoSaid : Prop := listdecodeInterpolatesUptoRow.holds Try.pinned (OpenSpec.upto listdecodeInterpolatesSpec)

end Rows
end Go.Proofs.Ytmnojknfjbimdaa
