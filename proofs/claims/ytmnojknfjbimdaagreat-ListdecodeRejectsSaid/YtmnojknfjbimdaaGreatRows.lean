/-
  No cell of these rows narrows 'for every input' (looked for: loops, veiled, ifaces, maps, wideKeys, modest, calm, conditions, laid).
  DERIVED. THE GIVEN ROWS OF THIS SEAT. 6 by the template 'for every input the law returns true; each argument reads behind the call as it read before'; 0 by the template 'total and deterministic' (their statements: YtmnojknfjbimdaaGreatTotals.lean).
  GIVEN WITH THE SEED: the statements are not yours to turn. If you find one false, say at which input.
  Laid BY PROGRAM, IN A SANDBOX (cutbox-rows.mjs): the forced cells as the released guide's own fill.sh prints them over the translation a19c47edf83c360d… (all of the seat's roots in one cut). By AI agents, Wed Nov 11 2026. No macro, syntax, notation, axiom, sorry.
-/
import Derived.Test.YtmnojknfjbimdaaGreatChecked
import GoSem.Claim
import GoSem.ClaimJoined
import GoSem.ClaimMapViews
import Derived.JoinedTies
import Derived.KernelRfl
namespace Go.Proofs.YtmnojknfjbimdaaGreat
/- THE CELL 'sum', in the pinned program and in every row, IS THE sha256 OF THE DUMP (.gsa) THAT YtmnojknfjbimdaaGreatProg.lean LOADS. Nothing in Lean hashes anything: it is a label: what it is worth is what the hold of that sum in a sandbox is worth. -/
noncomputable def Tryz.pinned : Pinned := { name := "ytmnojknfjbimdaagreat", sum := "a19c47edf83c360d931b7ca11ba284754eb115b088cebdaa66928171ddd95cce", checked := Tryz.checked }
namespace Rows
def none {H : Type} : Left H := { results := [], args := [] }

/-- 'codewrightlaw41.ListdecodeProves': WHATEVER THE INPUT: true; the input reads as it did. -/
def listdecodeProvesSpec : ChangeSpec := { name := "listdecodeProves", fn := fun _ => fun
  | [d1, d2] => { results := [.lit (.bool true)], args := [d1, d2] }
  | _ => none }
def listdecodeProvesRow : OpenClaim := { program := "ytmnojknfjbimdaagreat", sum := "a19c47edf83c360d931b7ca11ba284754eb115b088cebdaa66928171ddd95cce", func := "codewright/codewrightlaw41.ListdecodeProves", spec := "listdecodeProves", unfollowed := true, recurses := true, apart := false }
def ListdecodeProvesSaid : Prop := listdecodeProvesRow.holds Tryz.pinned (OpenSpec.ofChange listdecodeProvesSpec)

/-- ITS FALSE NEIGHBOUR: 'it returns false'. Refute it at one input. -/
def listdecodeProvesWrong : ChangeSpec := { name := "listdecodeProves", fn := fun _ => fun
  | [d1, d2] => { results := [.lit (.bool false)], args := [d1, d2] }
  | _ => none }
def ListdecodeProvesWrongFalsely : Prop := listdecodeProvesRow.holds Tryz.pinned (OpenSpec.ofChange listdecodeProvesWrong)

/-- 'codewrightlaw41.ListdecodeRejects': WHATEVER THE INPUT: true; the input reads as it did. -/
def listdecodeRejectsSpec : ChangeSpec := { name := "listdecodeRejects", fn := fun _ => fun
  | [d1, d2] => { results := [.lit (.bool true)], args := [d1, d2] }
  | _ => none }
def listdecodeRejectsRow : OpenClaim := { program := "ytmnojknfjbimdaagreat", sum := "a19c47edf83c360d931b7ca11ba284754eb115b088cebdaa66928171ddd95cce", func := "codewright/codewrightlaw41.ListdecodeRejects", spec := "listdecodeRejects", unfollowed := true, recurses := true, apart := false }
def ListdecodeRejectsSaid : Prop := listdecodeRejectsRow.holds Tryz.pinned (OpenSpec.ofChange listdecodeRejectsSpec)

/-- ITS FALSE NEIGHBOUR: 'it returns false'. Refute it at one input. -/
def listdecodeRejectsWrong : ChangeSpec := { name := "listdecodeRejects", fn := fun _ => fun
  | [d1, d2] => { results := [.lit (.bool false)], args := [d1, d2] }
  | _ => none }
def ListdecodeRejectsWrongFalsely : Prop := listdecodeRejectsRow.holds Tryz.pinned (OpenSpec.ofChange listdecodeRejectsWrong)

/-- 'codewrightlaw41.ListdecodeSound': WHATEVER THE INPUT: true; the input reads as it did. -/
def listdecodeSoundSpec : ChangeSpec := { name := "listdecodeSound", fn := fun _ => fun
  | [d] => { results := [.lit (.bool true)], args := [d] }
  | _ => none }
def listdecodeSoundRow : OpenClaim := { program := "ytmnojknfjbimdaagreat", sum := "a19c47edf83c360d931b7ca11ba284754eb115b088cebdaa66928171ddd95cce", func := "codewright/codewrightlaw41.ListdecodeSound", spec := "listdecodeSound", unfollowed := true, recurses := true, apart := false }
def ListdecodeSoundSaid : Prop := listdecodeSoundRow.holds Tryz.pinned (OpenSpec.ofChange listdecodeSoundSpec)

/-- ITS FALSE NEIGHBOUR: 'it returns false'. Refute it at one input. -/
def listdecodeSoundWrong : ChangeSpec := { name := "listdecodeSound", fn := fun _ => fun
  | [d] => { results := [.lit (.bool false)], args := [d] }
  | _ => none }
def ListdecodeSoundWrongFalsely : Prop := listdecodeSoundRow.holds Tryz.pinned (OpenSpec.ofChange listdecodeSoundWrong)

/-- 'codewrightlaw41.ListdecodeComplete': WHATEVER THE INPUT: true; the input reads as it did. -/
def listdecodeCompleteSpec : ChangeSpec := { name := "listdecodeComplete", fn := fun _ => fun
  | [d1, d2] => { results := [.lit (.bool true)], args := [d1, d2] }
  | _ => none }
def listdecodeCompleteRow : OpenClaim := { program := "ytmnojknfjbimdaagreat", sum := "a19c47edf83c360d931b7ca11ba284754eb115b088cebdaa66928171ddd95cce", func := "codewright/codewrightlaw41.ListdecodeComplete", spec := "listdecodeComplete", unfollowed := true, recurses := true, apart := false }
def ListdecodeCompleteSaid : Prop := listdecodeCompleteRow.holds Tryz.pinned (OpenSpec.ofChange listdecodeCompleteSpec)

/-- ITS FALSE NEIGHBOUR: 'it returns false'. Refute it at one input. -/
def listdecodeCompleteWrong : ChangeSpec := { name := "listdecodeComplete", fn := fun _ => fun
  | [d1, d2] => { results := [.lit (.bool false)], args := [d1, d2] }
  | _ => none }
def ListdecodeCompleteWrongFalsely : Prop := listdecodeCompleteRow.holds Tryz.pinned (OpenSpec.ofChange listdecodeCompleteWrong)

/-- 'codewrightlaw41.ListdecodeAccepts': WHATEVER THE INPUT: true; the input reads as it did. -/
def listdecodeAcceptsSpec : ChangeSpec := { name := "listdecodeAccepts", fn := fun _ => fun
  | [d] => { results := [.lit (.bool true)], args := [d] }
  | _ => none }
def listdecodeAcceptsRow : OpenClaim := { program := "ytmnojknfjbimdaagreat", sum := "a19c47edf83c360d931b7ca11ba284754eb115b088cebdaa66928171ddd95cce", func := "codewright/codewrightlaw41.ListdecodeAccepts", spec := "listdecodeAccepts", unfollowed := true, recurses := true, apart := false }
def ListdecodeAcceptsSaid : Prop := listdecodeAcceptsRow.holds Tryz.pinned (OpenSpec.ofChange listdecodeAcceptsSpec)

/-- ITS FALSE NEIGHBOUR: 'it returns false'. Refute it at one input. -/
def listdecodeAcceptsWrong : ChangeSpec := { name := "listdecodeAccepts", fn := fun _ => fun
  | [d] => { results := [.lit (.bool false)], args := [d] }
  | _ => none }
def ListdecodeAcceptsWrongFalsely : Prop := listdecodeAcceptsRow.holds Tryz.pinned (OpenSpec.ofChange listdecodeAcceptsWrong)

/-- 'codewrightlaw41.ListdecodeUnique': WHATEVER THE INPUT: true; the input reads as it did. -/
def listdecodeUniqueSpec : ChangeSpec := { name := "listdecodeUnique", fn := fun _ => fun
  | [d] => { results := [.lit (.bool true)], args := [d] }
  | _ => none }
def listdecodeUniqueRow : OpenClaim := { program := "ytmnojknfjbimdaagreat", sum := "a19c47edf83c360d931b7ca11ba284754eb115b088cebdaa66928171ddd95cce", func := "codewright/codewrightlaw41.ListdecodeUnique", spec := "listdecodeUnique", unfollowed := true, recurses := true, apart := false }
def ListdecodeUniqueSaid : Prop := listdecodeUniqueRow.holds Tryz.pinned (OpenSpec.ofChange listdecodeUniqueSpec)

/-- ITS FALSE NEIGHBOUR: 'it returns false'. Refute it at one input. -/
def listdecodeUniqueWrong : ChangeSpec := { name := "listdecodeUnique", fn := fun _ => fun
  | [d] => { results := [.lit (.bool false)], args := [d] }
  | _ => none }
def ListdecodeUniqueWrongFalsely : Prop := listdecodeUniqueRow.holds Tryz.pinned (OpenSpec.ofChange listdecodeUniqueWrong)

/- THE SECOND FORM. 'bulk': how many values and letters a reading holds, each counted each time it is reached (what is shared counts as often as it is met; a slice's spare places count too). A statement '..UptoSaid' is the law's where the arguments, and the package variables that the reading takes, are together of bulk at most 1048576: NARROWER than '..Said'. Prove '..Said' where nothing that the law and all that it calls make is longer than what came in: it says more and counts as full. Else prove '..UptoSaid'. A law counts once. -/
mutual
def uptoBulk {H : Type} : DataW H → Nat
  | .lit (.string bytes) => bytes.length + 1
  | .lit _ => 1
  | .nil => 1
  | .ptr d => uptoBulk d + 1
  | .slice elems spare => uptoBulkAll elems + uptoBulkAll spare + 1
  | .agg parts => uptoBulkAll parts + 1
  | .iface _ d => uptoBulk d + 1
  | .map entries => uptoBulkEntries entries + 1
  | .held _ => 1
def uptoBulkAll {H : Type} : List (DataW H) → Nat
  | [] => 0
  | d :: r => uptoBulk d + uptoBulkAll r
def uptoBulkEntries {H : Type} : List (Lit × DataW H) → Nat
  | [] => 0
  | x :: r => uptoBulkEntry x + uptoBulkEntries r
def uptoBulkEntry {H : Type} : Lit × DataW H → Nat
  | (.string bytes, d) => bytes.length + uptoBulk d + 1
  | (_, d) => uptoBulk d + 1
 end
def uptoSmall : (H : Type) → List (DataW H) → Bool := fun _ ds => decide (uptoBulkAll ds ≤ 1048576)
def OpenSpec.upto (s : _root_.Go.ChangeSpec) : _root_.Go.OpenSpec := { _root_.Go.OpenSpec.ofChange s with cond := some uptoSmall }

/-- 'codewrightlaw41.ListdecodeProves', WHERE WHAT IT READS IS OF BULK AT MOST 1048576: true; the input reads as it did. -/
def listdecodeProvesUptoRow : OpenClaim := { program := "ytmnojknfjbimdaagreat", sum := "a19c47edf83c360d931b7ca11ba284754eb115b088cebdaa66928171ddd95cce", func := "codewright/codewrightlaw41.ListdecodeProves", spec := "listdecodeProves", unfollowed := true, recurses := true, apart := false, narrowed := true }
def ListdecodeProvesUptoSaid : Prop := listdecodeProvesUptoRow.holds Tryz.pinned (OpenSpec.upto listdecodeProvesSpec)

/-- 'codewrightlaw41.ListdecodeRejects', WHERE WHAT IT READS IS OF BULK AT MOST 1048576: true; the input reads as it did. -/
def listdecodeRejectsUptoRow : OpenClaim := { program := "ytmnojknfjbimdaagreat", sum := "a19c47edf83c360d931b7ca11ba284754eb115b088cebdaa66928171ddd95cce", func := "codewright/codewrightlaw41.ListdecodeRejects", spec := "listdecodeRejects", unfollowed := true, recurses := true, apart := false, narrowed := true }
def ListdecodeRejectsUptoSaid : Prop := listdecodeRejectsUptoRow.holds Tryz.pinned (OpenSpec.upto listdecodeRejectsSpec)

/-- 'codewrightlaw41.ListdecodeSound', WHERE WHAT IT READS IS OF BULK AT MOST 1048576: true; the input reads as it did. -/
def listdecodeSoundUptoRow : OpenClaim := { program := "ytmnojknfjbimdaagreat", sum := "a19c47edf83c360d931b7ca11ba284754eb115b088cebdaa66928171ddd95cce", func := "codewright/codewrightlaw41.ListdecodeSound", spec := "listdecodeSound", unfollowed := true, recurses := true, apart := false, narrowed := true }
def ListdecodeSoundUptoSaid : Prop := listdecodeSoundUptoRow.holds Tryz.pinned (OpenSpec.upto listdecodeSoundSpec)

/-- 'codewrightlaw41.ListdecodeComplete', WHERE WHAT IT READS IS OF BULK AT MOST 1048576: true; the input reads as it did. -/
def listdecodeCompleteUptoRow : OpenClaim := { program := "ytmnojknfjbimdaagreat", sum := "a19c47edf83c360d931b7ca11ba284754eb115b088cebdaa66928171ddd95cce", func := "codewright/codewrightlaw41.ListdecodeComplete", spec := "listdecodeComplete", unfollowed := true, recurses := true, apart := false, narrowed := true }
def ListdecodeCompleteUptoSaid : Prop := listdecodeCompleteUptoRow.holds Tryz.pinned (OpenSpec.upto listdecodeCompleteSpec)

/-- 'codewrightlaw41.ListdecodeAccepts', WHERE WHAT IT READS IS OF BULK AT MOST 1048576: true; the input reads as it did. -/
def listdecodeAcceptsUptoRow : OpenClaim := { program := "ytmnojknfjbimdaagreat", sum := "a19c47edf83c360d931b7ca11ba284754eb115b088cebdaa66928171ddd95cce", func := "codewright/codewrightlaw41.ListdecodeAccepts", spec := "listdecodeAccepts", unfollowed := true, recurses := true, apart := false, narrowed := true }
def ListdecodeAcceptsUptoSaid : Prop := listdecodeAcceptsUptoRow.holds Tryz.pinned (OpenSpec.upto listdecodeAcceptsSpec)

/-- 'codewrightlaw41.ListdecodeUnique', WHERE WHAT IT READS IS OF BULK AT MOST 1048576: true; the input reads as it did. -/
def listdecodeUniqueUptoRow : OpenClaim := { program := "ytmnojknfjbimdaagreat", sum := "a19c47edf83c360d931b7ca11ba284754eb115b088cebdaa66928171ddd95cce", func := "codewright/codewrightlaw41.ListdecodeUnique", spec := "listdecodeUnique", unfollowed := true, recurses := true, apart := false, narrowed := true }
def ListdecodeUniqueUptoSaid : Prop := listdecodeUniqueUptoRow.holds Tryz.pinned (OpenSpec.upto listdecodeUniqueSpec)

end Rows
end Go.Proofs.YtmnojknfjbimdaaGreat
