/-
  No cell of these rows narrows 'for every input' (looked for: loops, veiled, ifaces, maps, wideKeys, modest, calm, conditions, laid).
  DERIVED. THE GIVEN ROWS OF THIS SEAT. 6 by the template 'for every input the law returns true; each argument reads behind the call as it read before'; 0 by the template 'total and deterministic' (their statements: YtnoggejkkjngjaaTotals.lean).
  GIVEN WITH THE SEED: the statements are not yours to turn. If you find one false, say at which input.
  Laid BY PROGRAM, IN A SANDBOX (cutbox-rows.mjs): the forced cells as the released guide's own fill.sh prints them over the translation db8ef9b2068fe0a1… (all of the seat's roots in one cut). By AI agents, Wed Nov 11 2026. No macro, syntax, notation, axiom, sorry.
-/
import Derived.Test.YtnoggejkkjngjaaChecked
import GoSem.Claim
import GoSem.ClaimJoined
import GoSem.ClaimMapViews
import Derived.JoinedTies
import Derived.KernelRfl
namespace Go.Proofs.Ytnoggejkkjngjaa
/- THE CELL 'sum', in the pinned program and in every row, IS THE sha256 OF THE DUMP (.gsa) THAT YtnoggejkkjngjaaProg.lean LOADS. Nothing in Lean hashes anything: it is a label: what it is worth is what the hold of that sum in a sandbox is worth. -/
noncomputable def Try.pinned : Pinned := { name := "ytnoggejkkjngjaa", sum := "db8ef9b2068fe0a17a58f986dd3af4a4f311efae32b0cb2d38ddc86001ea9a98", checked := Try.checked }
namespace Rows
def none {H : Type} : Left H := { results := [], args := [] }

/-- 'meridianlaw15.StateFenced': WHATEVER THE INPUT: true; the input reads as it did. -/
def stateFencedSpec : ChangeSpec := { name := "stateFenced", fn := fun _ => fun
  | [d1, d2] => { results := [.lit (.bool true)], args := [d1, d2] }
  | _ => none }
def stateFencedRow : OpenClaim := { program := "ytnoggejkkjngjaa", sum := "db8ef9b2068fe0a17a58f986dd3af4a4f311efae32b0cb2d38ddc86001ea9a98", func := "meridian/meridianlaw15.StateFenced", spec := "stateFenced", unfollowed := true, recurses := true, apart := false }
def StateFencedSaid : Prop := stateFencedRow.holds Try.pinned (OpenSpec.ofChange stateFencedSpec)

/-- ITS FALSE NEIGHBOUR: 'it returns false'. Refute it at one input. -/
def stateFencedWrong : ChangeSpec := { name := "stateFenced", fn := fun _ => fun
  | [d1, d2] => { results := [.lit (.bool false)], args := [d1, d2] }
  | _ => none }
def StateFencedWrongFalsely : Prop := stateFencedRow.holds Try.pinned (OpenSpec.ofChange stateFencedWrong)

/-- 'meridianlaw15.StateCompacts': WHATEVER THE INPUT: true; the input reads as it did. -/
def stateCompactsSpec : ChangeSpec := { name := "stateCompacts", fn := fun _ => fun
  | [d] => { results := [.lit (.bool true)], args := [d] }
  | _ => none }
def stateCompactsRow : OpenClaim := { program := "ytnoggejkkjngjaa", sum := "db8ef9b2068fe0a17a58f986dd3af4a4f311efae32b0cb2d38ddc86001ea9a98", func := "meridian/meridianlaw15.StateCompacts", spec := "stateCompacts", unfollowed := true, recurses := true, apart := false }
def StateCompactsSaid : Prop := stateCompactsRow.holds Try.pinned (OpenSpec.ofChange stateCompactsSpec)

/-- ITS FALSE NEIGHBOUR: 'it returns false'. Refute it at one input. -/
def stateCompactsWrong : ChangeSpec := { name := "stateCompacts", fn := fun _ => fun
  | [d] => { results := [.lit (.bool false)], args := [d] }
  | _ => none }
def StateCompactsWrongFalsely : Prop := stateCompactsRow.holds Try.pinned (OpenSpec.ofChange stateCompactsWrong)

/-- 'meridianlaw15.StateLog': WHATEVER THE INPUT: true; the input reads as it did. -/
def stateLogSpec : ChangeSpec := { name := "stateLog", fn := fun _ => fun
  | [d1, d2, d3] => { results := [.lit (.bool true)], args := [d1, d2, d3] }
  | _ => none }
def stateLogRow : OpenClaim := { program := "ytnoggejkkjngjaa", sum := "db8ef9b2068fe0a17a58f986dd3af4a4f311efae32b0cb2d38ddc86001ea9a98", func := "meridian/meridianlaw15.StateLog", spec := "stateLog", unfollowed := true, recurses := true, apart := false }
def StateLogSaid : Prop := stateLogRow.holds Try.pinned (OpenSpec.ofChange stateLogSpec)

/-- ITS FALSE NEIGHBOUR: 'it returns false'. Refute it at one input. -/
def stateLogWrong : ChangeSpec := { name := "stateLog", fn := fun _ => fun
  | [d1, d2, d3] => { results := [.lit (.bool false)], args := [d1, d2, d3] }
  | _ => none }
def StateLogWrongFalsely : Prop := stateLogRow.holds Try.pinned (OpenSpec.ofChange stateLogWrong)

/-- 'meridianlaw15.StateInstalls': WHATEVER THE INPUT: true; the input reads as it did. -/
def stateInstallsSpec : ChangeSpec := { name := "stateInstalls", fn := fun _ => fun
  | [d] => { results := [.lit (.bool true)], args := [d] }
  | _ => none }
def stateInstallsRow : OpenClaim := { program := "ytnoggejkkjngjaa", sum := "db8ef9b2068fe0a17a58f986dd3af4a4f311efae32b0cb2d38ddc86001ea9a98", func := "meridian/meridianlaw15.StateInstalls", spec := "stateInstalls", unfollowed := true, recurses := true, apart := false }
def StateInstallsSaid : Prop := stateInstallsRow.holds Try.pinned (OpenSpec.ofChange stateInstallsSpec)

/-- ITS FALSE NEIGHBOUR: 'it returns false'. Refute it at one input. -/
def stateInstallsWrong : ChangeSpec := { name := "stateInstalls", fn := fun _ => fun
  | [d] => { results := [.lit (.bool false)], args := [d] }
  | _ => none }
def StateInstallsWrongFalsely : Prop := stateInstallsRow.holds Try.pinned (OpenSpec.ofChange stateInstallsWrong)

/-- 'meridianlaw15.StateBranch': WHATEVER THE INPUT: true; the input reads as it did. -/
def stateBranchSpec : ChangeSpec := { name := "stateBranch", fn := fun _ => fun
  | [d] => { results := [.lit (.bool true)], args := [d] }
  | _ => none }
def stateBranchRow : OpenClaim := { program := "ytnoggejkkjngjaa", sum := "db8ef9b2068fe0a17a58f986dd3af4a4f311efae32b0cb2d38ddc86001ea9a98", func := "meridian/meridianlaw15.StateBranch", spec := "stateBranch", unfollowed := true, recurses := true, apart := false }
def StateBranchSaid : Prop := stateBranchRow.holds Try.pinned (OpenSpec.ofChange stateBranchSpec)

/-- ITS FALSE NEIGHBOUR: 'it returns false'. Refute it at one input. -/
def stateBranchWrong : ChangeSpec := { name := "stateBranch", fn := fun _ => fun
  | [d] => { results := [.lit (.bool false)], args := [d] }
  | _ => none }
def StateBranchWrongFalsely : Prop := stateBranchRow.holds Try.pinned (OpenSpec.ofChange stateBranchWrong)

/-- 'meridianlaw15.StateNil': WHATEVER THE INPUT: true; the input reads as it did. -/
def stateNilSpec : ChangeSpec := { name := "stateNil", fn := fun _ => fun
  | [d1, d2, d3] => { results := [.lit (.bool true)], args := [d1, d2, d3] }
  | _ => none }
def stateNilRow : OpenClaim := { program := "ytnoggejkkjngjaa", sum := "db8ef9b2068fe0a17a58f986dd3af4a4f311efae32b0cb2d38ddc86001ea9a98", func := "meridian/meridianlaw15.StateNil", spec := "stateNil", unfollowed := true, recurses := true, apart := false }
def StateNilSaid : Prop := stateNilRow.holds Try.pinned (OpenSpec.ofChange stateNilSpec)

/-- ITS FALSE NEIGHBOUR: 'it returns false'. Refute it at one input. -/
def stateNilWrong : ChangeSpec := { name := "stateNil", fn := fun _ => fun
  | [d1, d2, d3] => { results := [.lit (.bool false)], args := [d1, d2, d3] }
  | _ => none }
def StateNilWrongFalsely : Prop := stateNilRow.holds Try.pinned (OpenSpec.ofChange stateNilWrong)

/- THE SECOND FORM. 'bulk': how many values and letters a reading holds, each counted each time it is reached (what is shared counts as often as it is met; a slice's spare places count too). A statement '..UptoSaid' is the law's where the arguments, and the package variables that the reading takes, are together of bulk at most 1048576: NARROWER than '..Said'. Prove '..Said' where nothing that the law and all that it calls make is longer than what came in: it says more and counts as full. Else prove '..UptoSaid'. A law counts once. -/
mutual
def uptoBulk {H : Type} : DataW H → Nat
  | .lit (.string bytes) => bytes.length + 1
  | .lit _ => 1
  | .nil => 1
  | .ptr d => uptoBulk d + 1
  | .slice elems spare => uptoBulkAll elems + uptoBulkAll spare + 1
  | .agg parts => uptoBulkAll parts + 1
  | .iface _ d => uptoBulk d + 1
  | .map entries => uptoBulkEntries entries + 1
  | .held _ => 1
def uptoBulkAll {H : Type} : List (DataW H) → Nat
  | [] => 0
  | d :: r => uptoBulk d + uptoBulkAll r
def uptoBulkEntries {H : Type} : List (Lit × DataW H) → Nat
  | [] => 0
  | x :: r => uptoBulkEntry x + uptoBulkEntries r
def uptoBulkEntry {H : Type} : Lit × DataW H → Nat
  | (.string bytes, d) => bytes.length + uptoBulk d + 1
  | (_, d) => uptoBulk d + 1
 end
def uptoSmall : (H : Type) → List (DataW H) → Bool := fun _ ds => decide (uptoBulkAll ds ≤ 1048576)
def OpenSpec.upto (s : _root_.Go.ChangeSpec) : _root_.Go.OpenSpec := { _root_.Go.OpenSpec.ofChange s with cond := some uptoSmall }

/-- 'meridianlaw15.StateFenced', WHERE WHAT IT READS IS OF BULK AT MOST 1048576: true; the input reads as it did. -/
def stateFencedUptoRow : OpenClaim := { program := "ytnoggejkkjngjaa", sum := "db8ef9b2068fe0a17a58f986dd3af4a4f311efae32b0cb2d38ddc86001ea9a98", func := "meridian/meridianlaw15.StateFenced", spec := "stateFenced", unfollowed := true, recurses := true, apart := false, narrowed := true }
def StateFencedUptoSaid : Prop := stateFencedUptoRow.holds Try.pinned (OpenSpec.upto stateFencedSpec)

/-- 'meridianlaw15.StateCompacts', WHERE WHAT IT READS IS OF BULK AT MOST 1048576: true; the input reads as it did. -/
def stateCompactsUptoRow : OpenClaim := { program := "ytnoggejkkjngjaa", sum := "db8ef9b2068fe0a17a58f986dd3af4a4f311efae32b0cb2d38ddc86001ea9a98", func := "meridian/meridianlaw15.StateCompacts", spec := "stateCompacts", unfollowed := true, recurses := true, apart := false, narrowed := true }
def StateCompactsUptoSaid : Prop := stateCompactsUptoRow.holds Try.pinned (OpenSpec.upto stateCompactsSpec)

/-- 'meridianlaw15.StateLog', WHERE WHAT IT READS IS OF BULK AT MOST 1048576: true; the input reads as it did. -/
def stateLogUptoRow : OpenClaim := { program := "ytnoggejkkjngjaa", sum := "db8ef9b2068fe0a17a58f986dd3af4a4f311efae32b0cb2d38ddc86001ea9a98", func := "meridian/meridianlaw15.StateLog", spec := "stateLog", unfollowed := true, recurses := true, apart := false, narrowed := true }
def StateLogUptoSaid : Prop := stateLogUptoRow.holds Try.pinned (OpenSpec.upto stateLogSpec)

/-- 'meridianlaw15.StateInstalls', WHERE WHAT IT READS IS OF BULK AT MOST 1048576: true; the input reads as it did. -/
def stateInstallsUptoRow : OpenClaim := { program := "ytnoggejkkjngjaa", sum := "db8ef9b2068fe0a17a58f986dd3af4a4f311efae32b0cb2d38ddc86001ea9a98", func := "meridian/meridianlaw15.StateInstalls", spec := "stateInstalls", unfollowed := true, recurses := true, apart := false, narrowed := true }
def StateInstallsUptoSaid : Prop := stateInstallsUptoRow.holds Try.pinned (OpenSpec.upto stateInstallsSpec)

/-- 'meridianlaw15.StateBranch', WHERE WHAT IT READS IS OF BULK AT MOST 1048576: true; the input reads as it did. -/
def stateBranchUptoRow : OpenClaim := { program := "ytnoggejkkjngjaa", sum := "db8ef9b2068fe0a17a58f986dd3af4a4f311efae32b0cb2d38ddc86001ea9a98", func := "meridian/meridianlaw15.StateBranch", spec := "stateBranch", unfollowed := true, recurses := true, apart := false, narrowed := true }
def StateBranchUptoSaid : Prop := stateBranchUptoRow.holds Try.pinned (OpenSpec.upto stateBranchSpec)

/-- 'meridianlaw15.StateNil', WHERE WHAT IT READS IS OF BULK AT MOST 1048576: true; the input reads as it did. -/
def stateNilUptoRow : OpenClaim := { program := "ytnoggejkkjngjaa", sum := "db8ef9b2068fe0a17a58f986dd3af4a4f311efae32b0cb2d38ddc86001ea9a98", func := "meridian/meridianlaw15.StateNil", spec := "stateNil", unfollowed := true, recurses := true, apart := false, narrowed := true }
def StateNilUptoSaid : Prop := stateNilUptoRow.holds Try.pinned (OpenSpec.upto stateNilSpec)

end Rows
end Go.Proofs.Ytnoggejkkjngjaa
