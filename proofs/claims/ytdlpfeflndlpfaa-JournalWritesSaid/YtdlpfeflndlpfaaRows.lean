/-
  No cell of these rows narrows 'for every input' (looked for: loops, veiled, ifaces, maps, wideKeys, modest, calm, conditions, laid).
  DERIVED. THE GIVEN ROWS OF THIS SEAT. 10 by the template 'for every input the law returns true; each argument reads behind the call as it read before'; 0 by the template 'total and deterministic' (their statements: YtdlpfeflndlpfaaTotals.lean).
  GIVEN WITH THE SEED: the statements are not yours to turn. If you find one false, say at which input.
  Laid BY PROGRAM, IN A SANDBOX (cutbox-rows.mjs): the forced cells as the released guide's own fill.sh prints them over the translation 546fd14765714b03… (all of the seat's roots in one cut). By AI agents, Wed Nov 11 2026. No macro, syntax, notation, axiom, sorry.
-/
import Derived.Test.YtdlpfeflndlpfaaChecked
import GoSem.Claim
import GoSem.ClaimJoined
import GoSem.ClaimMapViews
import Derived.JoinedTies
import Derived.KernelRfl
namespace Go.Proofs.Ytdlpfeflndlpfaa
/- THE CELL 'sum', in the pinned program and in every row, IS THE sha256 OF THE DUMP (.gsa) THAT YtdlpfeflndlpfaaProg.lean LOADS. Nothing in Lean hashes anything: it is a label: what it is worth is what the hold of that sum in a sandbox is worth. -/
noncomputable def Try.pinned : Pinned := { name := "ytdlpfeflndlpfaa", sum := "546fd14765714b030570e063005eb5edd86a12ca704bf9044575a4bcb0618ec2", checked := Try.checked }
namespace Rows
def none {H : Type} : Left H := { results := [], args := [] }

/-- 'meridianlaw05.SortedLow': WHATEVER THE INPUT: true; the input reads as it did. -/
def sortedLowSpec : ChangeSpec := { name := "sortedLow", fn := fun _ => fun
  | [d1, d2, d3] => { results := [.lit (.bool true)], args := [d1, d2, d3] }
  | _ => none }
def sortedLowRow : OpenClaim := { program := "ytdlpfeflndlpfaa", sum := "546fd14765714b030570e063005eb5edd86a12ca704bf9044575a4bcb0618ec2", func := "meridian/meridianlaw05.SortedLow", spec := "sortedLow", recurses := true, apart := false }
def SortedLowSaid : Prop := sortedLowRow.holds Try.pinned (OpenSpec.ofChange sortedLowSpec)

/-- ITS FALSE NEIGHBOUR: 'it returns false'. Refute it at one input. -/
def sortedLowWrong : ChangeSpec := { name := "sortedLow", fn := fun _ => fun
  | [d1, d2, d3] => { results := [.lit (.bool false)], args := [d1, d2, d3] }
  | _ => none }
def SortedLowWrongFalsely : Prop := sortedLowRow.holds Try.pinned (OpenSpec.ofChange sortedLowWrong)

/-- 'meridianlaw05.SortedCopies': WHATEVER THE INPUT: true; the input reads as it did. -/
def sortedCopiesSpec : ChangeSpec := { name := "sortedCopies", fn := fun _ => fun
  | [d1, d2] => { results := [.lit (.bool true)], args := [d1, d2] }
  | _ => none }
def sortedCopiesRow : OpenClaim := { program := "ytdlpfeflndlpfaa", sum := "546fd14765714b030570e063005eb5edd86a12ca704bf9044575a4bcb0618ec2", func := "meridian/meridianlaw05.SortedCopies", spec := "sortedCopies", unfollowed := true, recurses := true, apart := false }
def SortedCopiesSaid : Prop := sortedCopiesRow.holds Try.pinned (OpenSpec.ofChange sortedCopiesSpec)

/-- ITS FALSE NEIGHBOUR: 'it returns false'. Refute it at one input. -/
def sortedCopiesWrong : ChangeSpec := { name := "sortedCopies", fn := fun _ => fun
  | [d1, d2] => { results := [.lit (.bool false)], args := [d1, d2] }
  | _ => none }
def SortedCopiesWrongFalsely : Prop := sortedCopiesRow.holds Try.pinned (OpenSpec.ofChange sortedCopiesWrong)

/-- 'meridianlaw05.SortedPlays': WHATEVER THE INPUT: true; the input reads as it did. -/
def sortedPlaysSpec : ChangeSpec := { name := "sortedPlays", fn := fun _ => fun
  | [d] => { results := [.lit (.bool true)], args := [d] }
  | _ => none }
def sortedPlaysRow : OpenClaim := { program := "ytdlpfeflndlpfaa", sum := "546fd14765714b030570e063005eb5edd86a12ca704bf9044575a4bcb0618ec2", func := "meridian/meridianlaw05.SortedPlays", spec := "sortedPlays", unfollowed := true, recurses := true, apart := false }
def SortedPlaysSaid : Prop := sortedPlaysRow.holds Try.pinned (OpenSpec.ofChange sortedPlaysSpec)

/-- ITS FALSE NEIGHBOUR: 'it returns false'. Refute it at one input. -/
def sortedPlaysWrong : ChangeSpec := { name := "sortedPlays", fn := fun _ => fun
  | [d] => { results := [.lit (.bool false)], args := [d] }
  | _ => none }
def SortedPlaysWrongFalsely : Prop := sortedPlaysRow.holds Try.pinned (OpenSpec.ofChange sortedPlaysWrong)

/-- 'meridianlaw05.SortedAll': WHATEVER THE INPUT: true; the input reads as it did. -/
def sortedAllSpec : ChangeSpec := { name := "sortedAll", fn := fun _ => fun
  | [d1, d2] => { results := [.lit (.bool true)], args := [d1, d2] }
  | _ => none }
def sortedAllRow : OpenClaim := { program := "ytdlpfeflndlpfaa", sum := "546fd14765714b030570e063005eb5edd86a12ca704bf9044575a4bcb0618ec2", func := "meridian/meridianlaw05.SortedAll", spec := "sortedAll", unfollowed := true, recurses := true, apart := false }
def SortedAllSaid : Prop := sortedAllRow.holds Try.pinned (OpenSpec.ofChange sortedAllSpec)

/-- ITS FALSE NEIGHBOUR: 'it returns false'. Refute it at one input. -/
def sortedAllWrong : ChangeSpec := { name := "sortedAll", fn := fun _ => fun
  | [d1, d2] => { results := [.lit (.bool false)], args := [d1, d2] }
  | _ => none }
def SortedAllWrongFalsely : Prop := sortedAllRow.holds Try.pinned (OpenSpec.ofChange sortedAllWrong)

/-- 'meridianlaw05.SortedNil': WHATEVER THE INPUT: true; the input reads as it did. -/
def sortedNilSpec : ChangeSpec := { name := "sortedNil", fn := fun _ => fun
  | [d1, d2] => { results := [.lit (.bool true)], args := [d1, d2] }
  | _ => none }
def sortedNilRow : OpenClaim := { program := "ytdlpfeflndlpfaa", sum := "546fd14765714b030570e063005eb5edd86a12ca704bf9044575a4bcb0618ec2", func := "meridian/meridianlaw05.SortedNil", spec := "sortedNil", unfollowed := true, recurses := true, apart := false }
def SortedNilSaid : Prop := sortedNilRow.holds Try.pinned (OpenSpec.ofChange sortedNilSpec)

/-- ITS FALSE NEIGHBOUR: 'it returns false'. Refute it at one input. -/
def sortedNilWrong : ChangeSpec := { name := "sortedNil", fn := fun _ => fun
  | [d1, d2] => { results := [.lit (.bool false)], args := [d1, d2] }
  | _ => none }
def SortedNilWrongFalsely : Prop := sortedNilRow.holds Try.pinned (OpenSpec.ofChange sortedNilWrong)

/-- 'meridianlaw05.SortedOrder': WHATEVER THE INPUT: true; the input reads as it did. -/
def sortedOrderSpec : ChangeSpec := { name := "sortedOrder", fn := fun _ => fun
  | [d1, d2] => { results := [.lit (.bool true)], args := [d1, d2] }
  | _ => none }
def sortedOrderRow : OpenClaim := { program := "ytdlpfeflndlpfaa", sum := "546fd14765714b030570e063005eb5edd86a12ca704bf9044575a4bcb0618ec2", func := "meridian/meridianlaw05.SortedOrder", spec := "sortedOrder", unfollowed := true, recurses := true, apart := false }
def SortedOrderSaid : Prop := sortedOrderRow.holds Try.pinned (OpenSpec.ofChange sortedOrderSpec)

/-- ITS FALSE NEIGHBOUR: 'it returns false'. Refute it at one input. -/
def sortedOrderWrong : ChangeSpec := { name := "sortedOrder", fn := fun _ => fun
  | [d1, d2] => { results := [.lit (.bool false)], args := [d1, d2] }
  | _ => none }
def SortedOrderWrongFalsely : Prop := sortedOrderRow.holds Try.pinned (OpenSpec.ofChange sortedOrderWrong)

/-- 'meridianlaw13.JournalParts': WHATEVER THE INPUT: true; the input reads as it did. -/
def journalPartsSpec : ChangeSpec := { name := "journalParts", fn := fun _ => fun
  | [d1, d2] => { results := [.lit (.bool true)], args := [d1, d2] }
  | _ => none }
def journalPartsRow : OpenClaim := { program := "ytdlpfeflndlpfaa", sum := "546fd14765714b030570e063005eb5edd86a12ca704bf9044575a4bcb0618ec2", func := "meridian/meridianlaw13.JournalParts", spec := "journalParts", inPlace := ["sync/atomic.LoadUint32", "sync/atomic.StoreUint32", "sync/atomic.AddInt64"], unfollowed := true, recurses := true, apart := false }
def JournalPartsSaid : Prop := journalPartsRow.holds Try.pinned (OpenSpec.ofChange journalPartsSpec)

/-- ITS FALSE NEIGHBOUR: 'it returns false'. Refute it at one input. -/
def journalPartsWrong : ChangeSpec := { name := "journalParts", fn := fun _ => fun
  | [d1, d2] => { results := [.lit (.bool false)], args := [d1, d2] }
  | _ => none }
def JournalPartsWrongFalsely : Prop := journalPartsRow.holds Try.pinned (OpenSpec.ofChange journalPartsWrong)

/-- 'meridianlaw13.JournalRoom': WHATEVER THE INPUT: true; the input reads as it did. -/
def journalRoomSpec : ChangeSpec := { name := "journalRoom", fn := fun _ => fun
  | [d1, d2, d3] => { results := [.lit (.bool true)], args := [d1, d2, d3] }
  | _ => none }
def journalRoomRow : OpenClaim := { program := "ytdlpfeflndlpfaa", sum := "546fd14765714b030570e063005eb5edd86a12ca704bf9044575a4bcb0618ec2", func := "meridian/meridianlaw13.JournalRoom", spec := "journalRoom", inPlace := ["sync/atomic.LoadUint32", "sync/atomic.StoreUint32", "sync/atomic.AddInt64"], unfollowed := true, recurses := true, apart := false }
def JournalRoomSaid : Prop := journalRoomRow.holds Try.pinned (OpenSpec.ofChange journalRoomSpec)

/-- ITS FALSE NEIGHBOUR: 'it returns false'. Refute it at one input. -/
def journalRoomWrong : ChangeSpec := { name := "journalRoom", fn := fun _ => fun
  | [d1, d2, d3] => { results := [.lit (.bool false)], args := [d1, d2, d3] }
  | _ => none }
def JournalRoomWrongFalsely : Prop := journalRoomRow.holds Try.pinned (OpenSpec.ofChange journalRoomWrong)

/-- 'meridianlaw13.JournalLaps': WHATEVER THE INPUT: true; the input reads as it did. -/
def journalLapsSpec : ChangeSpec := { name := "journalLaps", fn := fun _ => fun
  | [d] => { results := [.lit (.bool true)], args := [d] }
  | _ => none }
def journalLapsRow : OpenClaim := { program := "ytdlpfeflndlpfaa", sum := "546fd14765714b030570e063005eb5edd86a12ca704bf9044575a4bcb0618ec2", func := "meridian/meridianlaw13.JournalLaps", spec := "journalLaps", inPlace := ["sync/atomic.LoadUint32", "sync/atomic.StoreUint32", "sync/atomic.AddInt64"], unfollowed := true, recurses := true, apart := false }
def JournalLapsSaid : Prop := journalLapsRow.holds Try.pinned (OpenSpec.ofChange journalLapsSpec)

/-- ITS FALSE NEIGHBOUR: 'it returns false'. Refute it at one input. -/
def journalLapsWrong : ChangeSpec := { name := "journalLaps", fn := fun _ => fun
  | [d] => { results := [.lit (.bool false)], args := [d] }
  | _ => none }
def JournalLapsWrongFalsely : Prop := journalLapsRow.holds Try.pinned (OpenSpec.ofChange journalLapsWrong)

/-- 'meridianlaw13.JournalWrites': WHATEVER THE INPUT: true; the input reads as it did. -/
def journalWritesSpec : ChangeSpec := { name := "journalWrites", fn := fun _ => fun
  | [d1, d2] => { results := [.lit (.bool true)], args := [d1, d2] }
  | _ => none }
def journalWritesRow : OpenClaim := { program := "ytdlpfeflndlpfaa", sum := "546fd14765714b030570e063005eb5edd86a12ca704bf9044575a4bcb0618ec2", func := "meridian/meridianlaw13.JournalWrites", spec := "journalWrites", inPlace := ["sync/atomic.LoadUint32", "sync/atomic.StoreUint32", "sync/atomic.AddInt64"], unfollowed := true, recurses := true, apart := false }
def JournalWritesSaid : Prop := journalWritesRow.holds Try.pinned (OpenSpec.ofChange journalWritesSpec)

/-- ITS FALSE NEIGHBOUR: 'it returns false'. Refute it at one input. -/
def journalWritesWrong : ChangeSpec := { name := "journalWrites", fn := fun _ => fun
  | [d1, d2] => { results := [.lit (.bool false)], args := [d1, d2] }
  | _ => none }
def JournalWritesWrongFalsely : Prop := journalWritesRow.holds Try.pinned (OpenSpec.ofChange journalWritesWrong)

/- THE SECOND FORM. 'bulk': how many values and letters a reading holds, each counted each time it is reached (what is shared counts as often as it is met; a slice's spare places count too). A statement '..UptoSaid' is the law's where the arguments, and the package variables that the reading takes, are together of bulk at most 1048576: NARROWER than '..Said'. Prove '..Said' where nothing that the law and all that it calls make is longer than what came in: it says more and counts as full. Else prove '..UptoSaid'. A law counts once. -/
mutual
def uptoBulk {H : Type} : DataW H → Nat
  | .lit (.string bytes) => bytes.length + 1
  | .lit _ => 1
  | .nil => 1
  | .ptr d => uptoBulk d + 1
  | .slice elems spare => uptoBulkAll elems + uptoBulkAll spare + 1
  | .agg parts => uptoBulkAll parts + 1
  | .iface _ d => uptoBulk d + 1
  | .map entries => uptoBulkEntries entries + 1
  | .held _ => 1
def uptoBulkAll {H : Type} : List (DataW H) → Nat
  | [] => 0
  | d :: r => uptoBulk d + uptoBulkAll r
def uptoBulkEntries {H : Type} : List (Lit × DataW H) → Nat
  | [] => 0
  | x :: r => uptoBulkEntry x + uptoBulkEntries r
def uptoBulkEntry {H : Type} : Lit × DataW H → Nat
  | (.string bytes, d) => bytes.length + uptoBulk d + 1
  | (_, d) => uptoBulk d + 1
 end
def uptoSmall : (H : Type) → List (DataW H) → Bool := fun _ ds => decide (uptoBulkAll ds ≤ 1048576)
def OpenSpec.upto (s : _root_.Go.ChangeSpec) : _root_.Go.OpenSpec := { _root_.Go.OpenSpec.ofChange s with cond := some uptoSmall }

/-- 'meridianlaw05.SortedLow', WHERE WHAT IT READS IS OF BULK AT MOST 1048576: true; the input reads as it did. -/
def sortedLowUptoRow : OpenClaim := { program := "ytdlpfeflndlpfaa", sum := "546fd14765714b030570e063005eb5edd86a12ca704bf9044575a4bcb0618ec2", func := "meridian/meridianlaw05.SortedLow", spec := "sortedLow", recurses := true, apart := false, narrowed := true }
def SortedLowUptoSaid : Prop := sortedLowUptoRow.holds Try.pinned (OpenSpec.upto sortedLowSpec)

/-- 'meridianlaw05.SortedCopies', WHERE WHAT IT READS IS OF BULK AT MOST 1048576: true; the input reads as it did. -/
def sortedCopiesUptoRow : OpenClaim := { program := "ytdlpfeflndlpfaa", sum := "546fd14765714b030570e063005eb5edd86a12ca704bf9044575a4bcb0618ec2", func := "meridian/meridianlaw05.SortedCopies", spec := "sortedCopies", unfollowed := true, recurses := true, apart := false, narrowed := true }
def SortedCopiesUptoSaid : Prop := sortedCopiesUptoRow.holds Try.pinned (OpenSpec.upto sortedCopiesSpec)

/-- 'meridianlaw05.SortedPlays', WHERE WHAT IT READS IS OF BULK AT MOST 1048576: true; the input reads as it did. -/
def sortedPlaysUptoRow : OpenClaim := { program := "ytdlpfeflndlpfaa", sum := "546fd14765714b030570e063005eb5edd86a12ca704bf9044575a4bcb0618ec2", func := "meridian/meridianlaw05.SortedPlays", spec := "sortedPlays", unfollowed := true, recurses := true, apart := false, narrowed := true }
def SortedPlaysUptoSaid : Prop := sortedPlaysUptoRow.holds Try.pinned (OpenSpec.upto sortedPlaysSpec)

/-- 'meridianlaw05.SortedAll', WHERE WHAT IT READS IS OF BULK AT MOST 1048576: true; the input reads as it did. -/
def sortedAllUptoRow : OpenClaim := { program := "ytdlpfeflndlpfaa", sum := "546fd14765714b030570e063005eb5edd86a12ca704bf9044575a4bcb0618ec2", func := "meridian/meridianlaw05.SortedAll", spec := "sortedAll", unfollowed := true, recurses := true, apart := false, narrowed := true }
def SortedAllUptoSaid : Prop := sortedAllUptoRow.holds Try.pinned (OpenSpec.upto sortedAllSpec)

/-- 'meridianlaw05.SortedNil', WHERE WHAT IT READS IS OF BULK AT MOST 1048576: true; the input reads as it did. -/
def sortedNilUptoRow : OpenClaim := { program := "ytdlpfeflndlpfaa", sum := "546fd14765714b030570e063005eb5edd86a12ca704bf9044575a4bcb0618ec2", func := "meridian/meridianlaw05.SortedNil", spec := "sortedNil", unfollowed := true, recurses := true, apart := false, narrowed := true }
def SortedNilUptoSaid : Prop := sortedNilUptoRow.holds Try.pinned (OpenSpec.upto sortedNilSpec)

/-- 'meridianlaw05.SortedOrder', WHERE WHAT IT READS IS OF BULK AT MOST 1048576: true; the input reads as it did. -/
def sortedOrderUptoRow : OpenClaim := { program := "ytdlpfeflndlpfaa", sum := "546fd14765714b030570e063005eb5edd86a12ca704bf9044575a4bcb0618ec2", func := "meridian/meridianlaw05.SortedOrder", spec := "sortedOrder", unfollowed := true, recurses := true, apart := false, narrowed := true }
def SortedOrderUptoSaid : Prop := sortedOrderUptoRow.holds Try.pinned (OpenSpec.upto sortedOrderSpec)

/-- 'meridianlaw13.JournalParts', WHERE WHAT IT READS IS OF BULK AT MOST 1048576: true; the input reads as it did. -/
def journalPartsUptoRow : OpenClaim := { program := "ytdlpfeflndlpfaa", sum := "546fd14765714b030570e063005eb5edd86a12ca704bf9044575a4bcb0618ec2", func := "meridian/meridianlaw13.JournalParts", spec := "journalParts", inPlace := ["sync/atomic.LoadUint32", "sync/atomic.StoreUint32", "sync/atomic.AddInt64"], unfollowed := true, recurses := true, apart := false, narrowed := true }
def JournalPartsUptoSaid : Prop := journalPartsUptoRow.holds Try.pinned (OpenSpec.upto journalPartsSpec)

/-- 'meridianlaw13.JournalRoom', WHERE WHAT IT READS IS OF BULK AT MOST 1048576: true; the input reads as it did. -/
def journalRoomUptoRow : OpenClaim := { program := "ytdlpfeflndlpfaa", sum := "546fd14765714b030570e063005eb5edd86a12ca704bf9044575a4bcb0618ec2", func := "meridian/meridianlaw13.JournalRoom", spec := "journalRoom", inPlace := ["sync/atomic.LoadUint32", "sync/atomic.StoreUint32", "sync/atomic.AddInt64"], unfollowed := true, recurses := true, apart := false, narrowed := true }
def JournalRoomUptoSaid : Prop := journalRoomUptoRow.holds Try.pinned (OpenSpec.upto journalRoomSpec)

/-- 'meridianlaw13.JournalLaps', WHERE WHAT IT READS IS OF BULK AT MOST 1048576: true; the input reads as it did. -/
def journalLapsUptoRow : OpenClaim := { program := "ytdlpfeflndlpfaa", sum := "546fd14765714b030570e063005eb5edd86a12ca704bf9044575a4bcb0618ec2", func := "meridian/meridianlaw13.JournalLaps", spec := "journalLaps", inPlace := ["sync/atomic.LoadUint32", "sync/atomic.StoreUint32", "sync/atomic.AddInt64"], unfollowed := true, recurses := true, apart := false, narrowed := true }
def JournalLapsUptoSaid : Prop := journalLapsUptoRow.holds Try.pinned (OpenSpec.upto journalLapsSpec)

/-- 'meridianlaw13.JournalWrites', WHERE WHAT IT READS IS OF BULK AT MOST 1048576: true; the input reads as it did. -/
def journalWritesUptoRow : OpenClaim := { program := "ytdlpfeflndlpfaa", sum := "546fd14765714b030570e063005eb5edd86a12ca704bf9044575a4bcb0618ec2", func := "meridian/meridianlaw13.JournalWrites", spec := "journalWrites", inPlace := ["sync/atomic.LoadUint32", "sync/atomic.StoreUint32", "sync/atomic.AddInt64"], unfollowed := true, recurses := true, apart := false, narrowed := true }
def JournalWritesUptoSaid : Prop := journalWritesUptoRow.holds Try.pinned (OpenSpec.upto journalWritesSpec)

end Rows
end Go.Proofs.Ytdlpfeflndlpfaa
