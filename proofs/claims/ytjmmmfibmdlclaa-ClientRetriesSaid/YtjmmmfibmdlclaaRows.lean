/-
  No cell of these rows narrows 'for every input' (looked for: loops, veiled, ifaces, maps, wideKeys, modest, calm, conditions, laid).
  DERIVED. THE GIVEN ROWS OF THIS SEAT. 7 by the template 'for every input the law returns true; each argument reads behind the call as it read before'; 0 by the template 'total and deterministic' (their statements: YtjmmmfibmdlclaaTotals.lean).
  GIVEN WITH THE SEED: the statements are not yours to turn. If you find one false, say at which input.
  Laid BY PROGRAM, IN A SANDBOX (cutbox-rows.mjs): the forced cells as the released guide's own fill.sh prints them over the translation 07d9d563eac26de0… (all of the seat's roots in one cut). By AI agents, Wed Nov 11 2026. No macro, syntax, notation, axiom, sorry.
-/
import Derived.Test.YtjmmmfibmdlclaaChecked
import GoSem.Claim
import GoSem.ClaimJoined
import GoSem.ClaimMapViews
import Derived.JoinedTies
import Derived.KernelRfl
namespace Go.Proofs.Ytjmmmfibmdlclaa
/- THE CELL 'sum', in the pinned program and in every row, IS THE sha256 OF THE DUMP (.gsa) THAT YtjmmmfibmdlclaaProg.lean LOADS. Nothing in Lean hashes anything: it is a label: what it is worth is what the hold of that sum in a sandbox is worth. -/
noncomputable def Try.pinned : Pinned := { name := "ytjmmmfibmdlclaa", sum := "07d9d563eac26de0d40ed59f1cbc43c1a44c423723fc078390316bb17ed36686", checked := Try.checked }
namespace Rows
def none {H : Type} : Left H := { results := [], args := [] }

/-- 'meridianlaw12.DiskKeeps': WHATEVER THE INPUT: true; the input reads as it did. -/
def diskKeepsSpec : ChangeSpec := { name := "diskKeeps", fn := fun _ => fun
  | [d] => { results := [.lit (.bool true)], args := [d] }
  | _ => none }
def diskKeepsRow : OpenClaim := { program := "ytjmmmfibmdlclaa", sum := "07d9d563eac26de0d40ed59f1cbc43c1a44c423723fc078390316bb17ed36686", func := "meridian/meridianlaw12.DiskKeeps", spec := "diskKeeps", inPlace := ["sync/atomic.AddInt64"], apart := false }
def DiskKeepsSaid : Prop := diskKeepsRow.holds Try.pinned (OpenSpec.ofChange diskKeepsSpec)

/-- ITS FALSE NEIGHBOUR: 'it returns false'. Refute it at one input. -/
def diskKeepsWrong : ChangeSpec := { name := "diskKeeps", fn := fun _ => fun
  | [d] => { results := [.lit (.bool false)], args := [d] }
  | _ => none }
def DiskKeepsWrongFalsely : Prop := diskKeepsRow.holds Try.pinned (OpenSpec.ofChange diskKeepsWrong)

/-- 'meridianlaw12.DiskReads': WHATEVER THE INPUT: true; the input reads as it did. -/
def diskReadsSpec : ChangeSpec := { name := "diskReads", fn := fun _ => fun
  | [d1, d2] => { results := [.lit (.bool true)], args := [d1, d2] }
  | _ => none }
def diskReadsRow : OpenClaim := { program := "ytjmmmfibmdlclaa", sum := "07d9d563eac26de0d40ed59f1cbc43c1a44c423723fc078390316bb17ed36686", func := "meridian/meridianlaw12.DiskReads", spec := "diskReads", inPlace := ["sync/atomic.AddInt64"], apart := false }
def DiskReadsSaid : Prop := diskReadsRow.holds Try.pinned (OpenSpec.ofChange diskReadsSpec)

/-- ITS FALSE NEIGHBOUR: 'it returns false'. Refute it at one input. -/
def diskReadsWrong : ChangeSpec := { name := "diskReads", fn := fun _ => fun
  | [d1, d2] => { results := [.lit (.bool false)], args := [d1, d2] }
  | _ => none }
def DiskReadsWrongFalsely : Prop := diskReadsRow.holds Try.pinned (OpenSpec.ofChange diskReadsWrong)

/-- 'meridianlaw12.DiskFuses': WHATEVER THE INPUT: true; the input reads as it did. -/
def diskFusesSpec : ChangeSpec := { name := "diskFuses", fn := fun _ => fun
  | [d1, d2] => { results := [.lit (.bool true)], args := [d1, d2] }
  | _ => none }
def diskFusesRow : OpenClaim := { program := "ytjmmmfibmdlclaa", sum := "07d9d563eac26de0d40ed59f1cbc43c1a44c423723fc078390316bb17ed36686", func := "meridian/meridianlaw12.DiskFuses", spec := "diskFuses", inPlace := ["sync/atomic.AddInt64", "sync/atomic.LoadInt64"], apart := false }
def DiskFusesSaid : Prop := diskFusesRow.holds Try.pinned (OpenSpec.ofChange diskFusesSpec)

/-- ITS FALSE NEIGHBOUR: 'it returns false'. Refute it at one input. -/
def diskFusesWrong : ChangeSpec := { name := "diskFuses", fn := fun _ => fun
  | [d1, d2] => { results := [.lit (.bool false)], args := [d1, d2] }
  | _ => none }
def DiskFusesWrongFalsely : Prop := diskFusesRow.holds Try.pinned (OpenSpec.ofChange diskFusesWrong)

/-- 'meridianlaw12.DiskPlays': WHATEVER THE INPUT: true; the input reads as it did. -/
def diskPlaysSpec : ChangeSpec := { name := "diskPlays", fn := fun _ => fun
  | [d1, d2] => { results := [.lit (.bool true)], args := [d1, d2] }
  | _ => none }
def diskPlaysRow : OpenClaim := { program := "ytjmmmfibmdlclaa", sum := "07d9d563eac26de0d40ed59f1cbc43c1a44c423723fc078390316bb17ed36686", func := "meridian/meridianlaw12.DiskPlays", spec := "diskPlays", inPlace := ["sync/atomic.AddInt64", "sync/atomic.LoadInt64"], apart := false }
def DiskPlaysSaid : Prop := diskPlaysRow.holds Try.pinned (OpenSpec.ofChange diskPlaysSpec)

/-- ITS FALSE NEIGHBOUR: 'it returns false'. Refute it at one input. -/
def diskPlaysWrong : ChangeSpec := { name := "diskPlays", fn := fun _ => fun
  | [d1, d2] => { results := [.lit (.bool false)], args := [d1, d2] }
  | _ => none }
def DiskPlaysWrongFalsely : Prop := diskPlaysRow.holds Try.pinned (OpenSpec.ofChange diskPlaysWrong)

/-- 'meridianlaw25.ClientEnds': WHATEVER THE INPUT: true; the input reads as it did. -/
def clientEndsSpec : ChangeSpec := { name := "clientEnds", fn := fun _ => fun
  | [d1, d2] => { results := [.lit (.bool true)], args := [d1, d2] }
  | _ => none }
def clientEndsRow : OpenClaim := { program := "ytjmmmfibmdlclaa", sum := "07d9d563eac26de0d40ed59f1cbc43c1a44c423723fc078390316bb17ed36686", func := "meridian/meridianlaw25.ClientEnds", spec := "clientEnds", unfollowed := true, recurses := true, apart := false }
def ClientEndsSaid : Prop := clientEndsRow.holds Try.pinned (OpenSpec.ofChange clientEndsSpec)

/-- ITS FALSE NEIGHBOUR: 'it returns false'. Refute it at one input. -/
def clientEndsWrong : ChangeSpec := { name := "clientEnds", fn := fun _ => fun
  | [d1, d2] => { results := [.lit (.bool false)], args := [d1, d2] }
  | _ => none }
def ClientEndsWrongFalsely : Prop := clientEndsRow.holds Try.pinned (OpenSpec.ofChange clientEndsWrong)

/-- 'meridianlaw25.ClientRetries': WHATEVER THE INPUT: true; the input reads as it did. -/
def clientRetriesSpec : ChangeSpec := { name := "clientRetries", fn := fun _ => fun
  | [d] => { results := [.lit (.bool true)], args := [d] }
  | _ => none }
def clientRetriesRow : OpenClaim := { program := "ytjmmmfibmdlclaa", sum := "07d9d563eac26de0d40ed59f1cbc43c1a44c423723fc078390316bb17ed36686", func := "meridian/meridianlaw25.ClientRetries", spec := "clientRetries", unfollowed := true, recurses := true, apart := false }
def ClientRetriesSaid : Prop := clientRetriesRow.holds Try.pinned (OpenSpec.ofChange clientRetriesSpec)

/-- ITS FALSE NEIGHBOUR: 'it returns false'. Refute it at one input. -/
def clientRetriesWrong : ChangeSpec := { name := "clientRetries", fn := fun _ => fun
  | [d] => { results := [.lit (.bool false)], args := [d] }
  | _ => none }
def ClientRetriesWrongFalsely : Prop := clientRetriesRow.holds Try.pinned (OpenSpec.ofChange clientRetriesWrong)

/-- 'meridianlaw25.ClientPlays': WHATEVER THE INPUT: true; the input reads as it did. -/
def clientPlaysSpec : ChangeSpec := { name := "clientPlays", fn := fun _ => fun
  | [d1, d2] => { results := [.lit (.bool true)], args := [d1, d2] }
  | _ => none }
def clientPlaysRow : OpenClaim := { program := "ytjmmmfibmdlclaa", sum := "07d9d563eac26de0d40ed59f1cbc43c1a44c423723fc078390316bb17ed36686", func := "meridian/meridianlaw25.ClientPlays", spec := "clientPlays", unfollowed := true, recurses := true, apart := false }
def ClientPlaysSaid : Prop := clientPlaysRow.holds Try.pinned (OpenSpec.ofChange clientPlaysSpec)

/-- ITS FALSE NEIGHBOUR: 'it returns false'. Refute it at one input. -/
def clientPlaysWrong : ChangeSpec := { name := "clientPlays", fn := fun _ => fun
  | [d1, d2] => { results := [.lit (.bool false)], args := [d1, d2] }
  | _ => none }
def ClientPlaysWrongFalsely : Prop := clientPlaysRow.holds Try.pinned (OpenSpec.ofChange clientPlaysWrong)

/- THE SECOND FORM. 'bulk': how many values and letters a reading holds, each counted each time it is reached (what is shared counts as often as it is met; a slice's spare places count too). A statement '..UptoSaid' is the law's where the arguments, and the package variables that the reading takes, are together of bulk at most 1048576: NARROWER than '..Said'. Prove '..Said' where nothing that the law and all that it calls make is longer than what came in: it says more and counts as full. Else prove '..UptoSaid'. A law counts once. -/
mutual
def uptoBulk {H : Type} : DataW H → Nat
  | .lit (.string bytes) => bytes.length + 1
  | .lit _ => 1
  | .nil => 1
  | .ptr d => uptoBulk d + 1
  | .slice elems spare => uptoBulkAll elems + uptoBulkAll spare + 1
  | .agg parts => uptoBulkAll parts + 1
  | .iface _ d => uptoBulk d + 1
  | .map entries => uptoBulkEntries entries + 1
  | .held _ => 1
def uptoBulkAll {H : Type} : List (DataW H) → Nat
  | [] => 0
  | d :: r => uptoBulk d + uptoBulkAll r
def uptoBulkEntries {H : Type} : List (Lit × DataW H) → Nat
  | [] => 0
  | x :: r => uptoBulkEntry x + uptoBulkEntries r
def uptoBulkEntry {H : Type} : Lit × DataW H → Nat
  | (.string bytes, d) => bytes.length + uptoBulk d + 1
  | (_, d) => uptoBulk d + 1
 end
def uptoSmall : (H : Type) → List (DataW H) → Bool := fun _ ds => decide (uptoBulkAll ds ≤ 1048576)
def OpenSpec.upto (s : _root_.Go.ChangeSpec) : _root_.Go.OpenSpec := { _root_.Go.OpenSpec.ofChange s with cond := some uptoSmall }

/-- 'meridianlaw12.DiskKeeps', WHERE WHAT IT READS IS OF BULK AT MOST 1048576: true; the input reads as it did. -/
def diskKeepsUptoRow : OpenClaim := { program := "ytjmmmfibmdlclaa", sum := "07d9d563eac26de0d40ed59f1cbc43c1a44c423723fc078390316bb17ed36686", func := "meridian/meridianlaw12.DiskKeeps", spec := "diskKeeps", inPlace := ["sync/atomic.AddInt64"], apart := false, narrowed := true }
def DiskKeepsUptoSaid : Prop := diskKeepsUptoRow.holds Try.pinned (OpenSpec.upto diskKeepsSpec)

/-- 'meridianlaw12.DiskReads', WHERE WHAT IT READS IS OF BULK AT MOST 1048576: true; the input reads as it did. -/
def diskReadsUptoRow : OpenClaim := { program := "ytjmmmfibmdlclaa", sum := "07d9d563eac26de0d40ed59f1cbc43c1a44c423723fc078390316bb17ed36686", func := "meridian/meridianlaw12.DiskReads", spec := "diskReads", inPlace := ["sync/atomic.AddInt64"], apart := false, narrowed := true }
def DiskReadsUptoSaid : Prop := diskReadsUptoRow.holds Try.pinned (OpenSpec.upto diskReadsSpec)

/-- 'meridianlaw12.DiskFuses', WHERE WHAT IT READS IS OF BULK AT MOST 1048576: true; the input reads as it did. -/
def diskFusesUptoRow : OpenClaim := { program := "ytjmmmfibmdlclaa", sum := "07d9d563eac26de0d40ed59f1cbc43c1a44c423723fc078390316bb17ed36686", func := "meridian/meridianlaw12.DiskFuses", spec := "diskFuses", inPlace := ["sync/atomic.AddInt64", "sync/atomic.LoadInt64"], apart := false, narrowed := true }
def DiskFusesUptoSaid : Prop := diskFusesUptoRow.holds Try.pinned (OpenSpec.upto diskFusesSpec)

/-- 'meridianlaw12.DiskPlays', WHERE WHAT IT READS IS OF BULK AT MOST 1048576: true; the input reads as it did. -/
def diskPlaysUptoRow : OpenClaim := { program := "ytjmmmfibmdlclaa", sum := "07d9d563eac26de0d40ed59f1cbc43c1a44c423723fc078390316bb17ed36686", func := "meridian/meridianlaw12.DiskPlays", spec := "diskPlays", inPlace := ["sync/atomic.AddInt64", "sync/atomic.LoadInt64"], apart := false, narrowed := true }
def DiskPlaysUptoSaid : Prop := diskPlaysUptoRow.holds Try.pinned (OpenSpec.upto diskPlaysSpec)

/-- 'meridianlaw25.ClientEnds', WHERE WHAT IT READS IS OF BULK AT MOST 1048576: true; the input reads as it did. -/
def clientEndsUptoRow : OpenClaim := { program := "ytjmmmfibmdlclaa", sum := "07d9d563eac26de0d40ed59f1cbc43c1a44c423723fc078390316bb17ed36686", func := "meridian/meridianlaw25.ClientEnds", spec := "clientEnds", unfollowed := true, recurses := true, apart := false, narrowed := true }
def ClientEndsUptoSaid : Prop := clientEndsUptoRow.holds Try.pinned (OpenSpec.upto clientEndsSpec)

/-- 'meridianlaw25.ClientRetries', WHERE WHAT IT READS IS OF BULK AT MOST 1048576: true; the input reads as it did. -/
def clientRetriesUptoRow : OpenClaim := { program := "ytjmmmfibmdlclaa", sum := "07d9d563eac26de0d40ed59f1cbc43c1a44c423723fc078390316bb17ed36686", func := "meridian/meridianlaw25.ClientRetries", spec := "clientRetries", unfollowed := true, recurses := true, apart := false, narrowed := true }
def ClientRetriesUptoSaid : Prop := clientRetriesUptoRow.holds Try.pinned (OpenSpec.upto clientRetriesSpec)

/-- 'meridianlaw25.ClientPlays', WHERE WHAT IT READS IS OF BULK AT MOST 1048576: true; the input reads as it did. -/
def clientPlaysUptoRow : OpenClaim := { program := "ytjmmmfibmdlclaa", sum := "07d9d563eac26de0d40ed59f1cbc43c1a44c423723fc078390316bb17ed36686", func := "meridian/meridianlaw25.ClientPlays", spec := "clientPlays", unfollowed := true, recurses := true, apart := false, narrowed := true }
def ClientPlaysUptoSaid : Prop := clientPlaysUptoRow.holds Try.pinned (OpenSpec.upto clientPlaysSpec)

end Rows
end Go.Proofs.Ytjmmmfibmdlclaa
