/-
  No cell of these rows narrows 'for every input' (looked for: loops, veiled, ifaces, maps, wideKeys, modest, calm, conditions, laid).
  DERIVED. THE GIVEN ROWS OF THIS SEAT. 4 by the template 'for every input the law returns true; each argument reads behind the call as it read before'; 0 by the template 'total and deterministic' (their statements: YtkjfiofefndgkaaTotals.lean).
  GIVEN WITH THE SEED: the statements are not yours to turn. If you find one false, say at which input.
  Laid BY PROGRAM, IN A SANDBOX (cutbox-rows.mjs): the forced cells as the released guide's own fill.sh prints them over the translation 104bc39c6bbc12a6… (all of the seat's roots in one cut). By AI agents, Wed Nov 11 2026. No macro, syntax, notation, axiom, sorry.
-/
import Derived.Test.YtkjfiofefndgkaaChecked
import GoSem.Claim
import GoSem.ClaimJoined
import GoSem.ClaimMapViews
import Derived.JoinedTies
import Derived.KernelRfl
namespace Go.Proofs.Ytkjfiofefndgkaa
/- THE CELL 'sum', in the pinned program and in every row, IS THE sha256 OF THE DUMP (.gsa) THAT YtkjfiofefndgkaaProg.lean LOADS. Nothing in Lean hashes anything: it is a label: what it is worth is what the hold of that sum in a sandbox is worth. -/
noncomputable def Try.pinned : Pinned := { name := "ytkjfiofefndgkaa", sum := "104bc39c6bbc12a6dc940350018ba53c855bd5804d4cb420f8a7160970390e73", checked := Try.checked }
namespace Rows
def none {H : Type} : Left H := { results := [], args := [] }

/-- 'latticelaw24.TreesDone': WHATEVER THE INPUT: true; the input reads as it did. -/
def treesDoneSpec : ChangeSpec := { name := "treesDone", fn := fun _ => fun
  | [d] => { results := [.lit (.bool true)], args := [d] }
  | _ => none }
def treesDoneRow : OpenClaim := { program := "ytkjfiofefndgkaa", sum := "104bc39c6bbc12a6dc940350018ba53c855bd5804d4cb420f8a7160970390e73", func := "lattice/latticelaw24.TreesDone", spec := "treesDone", apart := false }
def TreesDoneSaid : Prop := treesDoneRow.holds Try.pinned (OpenSpec.ofChange treesDoneSpec)

/-- ITS FALSE NEIGHBOUR: 'it returns false'. Refute it at one input. -/
def treesDoneWrong : ChangeSpec := { name := "treesDone", fn := fun _ => fun
  | [d] => { results := [.lit (.bool false)], args := [d] }
  | _ => none }
def TreesDoneWrongFalsely : Prop := treesDoneRow.holds Try.pinned (OpenSpec.ofChange treesDoneWrong)

/-- 'latticelaw24.TreesEnds': WHATEVER THE INPUT: true; the input reads as it did. -/
def treesEndsSpec : ChangeSpec := { name := "treesEnds", fn := fun _ => fun
  | [d] => { results := [.lit (.bool true)], args := [d] }
  | _ => none }
def treesEndsRow : OpenClaim := { program := "ytkjfiofefndgkaa", sum := "104bc39c6bbc12a6dc940350018ba53c855bd5804d4cb420f8a7160970390e73", func := "lattice/latticelaw24.TreesEnds", spec := "treesEnds", apart := false }
def TreesEndsSaid : Prop := treesEndsRow.holds Try.pinned (OpenSpec.ofChange treesEndsSpec)

/-- ITS FALSE NEIGHBOUR: 'it returns false'. Refute it at one input. -/
def treesEndsWrong : ChangeSpec := { name := "treesEnds", fn := fun _ => fun
  | [d] => { results := [.lit (.bool false)], args := [d] }
  | _ => none }
def TreesEndsWrongFalsely : Prop := treesEndsRow.holds Try.pinned (OpenSpec.ofChange treesEndsWrong)

/-- 'latticelaw24.TreesPlays': WHATEVER THE INPUT: true; the input reads as it did. -/
def treesPlaysSpec : ChangeSpec := { name := "treesPlays", fn := fun _ => fun
  | [d] => { results := [.lit (.bool true)], args := [d] }
  | _ => none }
def treesPlaysRow : OpenClaim := { program := "ytkjfiofefndgkaa", sum := "104bc39c6bbc12a6dc940350018ba53c855bd5804d4cb420f8a7160970390e73", func := "lattice/latticelaw24.TreesPlays", spec := "treesPlays", unfollowed := true, recurses := true, apart := false }
def TreesPlaysSaid : Prop := treesPlaysRow.holds Try.pinned (OpenSpec.ofChange treesPlaysSpec)

/-- ITS FALSE NEIGHBOUR: 'it returns false'. Refute it at one input. -/
def treesPlaysWrong : ChangeSpec := { name := "treesPlays", fn := fun _ => fun
  | [d] => { results := [.lit (.bool false)], args := [d] }
  | _ => none }
def TreesPlaysWrongFalsely : Prop := treesPlaysRow.holds Try.pinned (OpenSpec.ofChange treesPlaysWrong)

/-- 'latticelaw24.TreesNil': WHATEVER THE INPUT: true; the input reads as it did. -/
def treesNilSpec : ChangeSpec := { name := "treesNil", fn := fun _ => fun
  | [d1, d2] => { results := [.lit (.bool true)], args := [d1, d2] }
  | _ => none }
def treesNilRow : OpenClaim := { program := "ytkjfiofefndgkaa", sum := "104bc39c6bbc12a6dc940350018ba53c855bd5804d4cb420f8a7160970390e73", func := "lattice/latticelaw24.TreesNil", spec := "treesNil", unfollowed := true, recurses := true, apart := false }
def TreesNilSaid : Prop := treesNilRow.holds Try.pinned (OpenSpec.ofChange treesNilSpec)

/-- ITS FALSE NEIGHBOUR: 'it returns false'. Refute it at one input. -/
def treesNilWrong : ChangeSpec := { name := "treesNil", fn := fun _ => fun
  | [d1, d2] => { results := [.lit (.bool false)], args := [d1, d2] }
  | _ => none }
def TreesNilWrongFalsely : Prop := treesNilRow.holds Try.pinned (OpenSpec.ofChange treesNilWrong)

/- THE SECOND FORM. 'bulk': how many values and letters a reading holds, each counted each time it is reached (what is shared counts as often as it is met; a slice's spare places count too). A statement '..UptoSaid' is the law's where the arguments, and the package variables that the reading takes, are together of bulk at most 1048576: NARROWER than '..Said'. Prove '..Said' where nothing that the law and all that it calls make is longer than what came in: it says more and counts as full. Else prove '..UptoSaid'. A law counts once. -/
mutual
def uptoBulk {H : Type} : DataW H → Nat
  | .lit (.string bytes) => bytes.length + 1
  | .lit _ => 1
  | .nil => 1
  | .ptr d => uptoBulk d + 1
  | .slice elems spare => uptoBulkAll elems + uptoBulkAll spare + 1
  | .agg parts => uptoBulkAll parts + 1
  | .iface _ d => uptoBulk d + 1
  | .map entries => uptoBulkEntries entries + 1
  | .held _ => 1
def uptoBulkAll {H : Type} : List (DataW H) → Nat
  | [] => 0
  | d :: r => uptoBulk d + uptoBulkAll r
def uptoBulkEntries {H : Type} : List (Lit × DataW H) → Nat
  | [] => 0
  | x :: r => uptoBulkEntry x + uptoBulkEntries r
def uptoBulkEntry {H : Type} : Lit × DataW H → Nat
  | (.string bytes, d) => bytes.length + uptoBulk d + 1
  | (_, d) => uptoBulk d + 1
 end
def uptoSmall : (H : Type) → List (DataW H) → Bool := fun _ ds => decide (uptoBulkAll ds ≤ 1048576)
def OpenSpec.upto (s : _root_.Go.ChangeSpec) : _root_.Go.OpenSpec := { _root_.Go.OpenSpec.ofChange s with cond := some uptoSmall }

/-- 'latticelaw24.TreesDone', WHERE WHAT IT READS IS OF BULK AT MOST 1048576: true; the input reads as it did. -/
def treesDoneUptoRow : OpenClaim := { program := "ytkjfiofefndgkaa", sum := "104bc39c6bbc12a6dc940350018ba53c855bd5804d4cb420f8a7160970390e73", func := "lattice/latticelaw24.TreesDone", spec := "treesDone", apart := false, narrowed := true }
def TreesDoneUptoSaid : Prop := treesDoneUptoRow.holds Try.pinned (OpenSpec.upto treesDoneSpec)

/-- 'latticelaw24.TreesEnds', WHERE WHAT IT READS IS OF BULK AT MOST 1048576: true; the input reads as it did. -/
def treesEndsUptoRow : OpenClaim := { program := "ytkjfiofefndgkaa", sum := "104bc39c6bbc12a6dc940350018ba53c855bd5804d4cb420f8a7160970390e73", func := "lattice/latticelaw24.TreesEnds", spec := "treesEnds", apart := false, narrowed := true }
def TreesEndsUptoSaid : Prop := treesEndsUptoRow.holds Try.pinned (OpenSpec.upto treesEndsSpec)

/-- 'latticelaw24.TreesPlays', WHERE WHAT IT READS IS OF BULK AT MOST 1048576: true; the input reads as it did. -/
def treesPlaysUptoRow : OpenClaim := { program := "ytkjfiofefndgkaa", sum := "104bc39c6bbc12a6dc940350018ba53c855bd5804d4cb420f8a7160970390e73", func := "lattice/latticelaw24.TreesPlays", spec := "treesPlays", unfollowed := true, recurses := true, apart := false, narrowed := true }
def TreesPlaysUptoSaid : Prop := treesPlaysUptoRow.holds Try.pinned (OpenSpec.upto treesPlaysSpec)

/-- 'latticelaw24.TreesNil', WHERE WHAT IT READS IS OF BULK AT MOST 1048576: true; the input reads as it did. -/
def treesNilUptoRow : OpenClaim := { program := "ytkjfiofefndgkaa", sum := "104bc39c6bbc12a6dc940350018ba53c855bd5804d4cb420f8a7160970390e73", func := "lattice/latticelaw24.TreesNil", spec := "treesNil", unfollowed := true, recurses := true, apart := false, narrowed := true }
def TreesNilUptoSaid : Prop := treesNilUptoRow.holds Try.pinned (OpenSpec.upto treesNilSpec)

end Rows
end Go.Proofs.Ytkjfiofefndgkaa
