/-
  No cell of these rows narrows 'for every input' (looked for: loops, veiled, ifaces, maps, wideKeys, modest, calm, conditions, laid).
  DERIVED. THE GIVEN ROWS OF THIS SEAT. 5 by the template 'for every input the law returns true; each argument reads behind the call as it read before'; 0 by the template 'total and deterministic' (their statements: YtfkndbihfdjinaaTotals.lean).
  GIVEN WITH THE SEED: the statements are not yours to turn. If you find one false, say at which input.
  Laid BY PROGRAM, IN A SANDBOX (cutbox-rows.mjs): the forced cells as the released guide's own fill.sh prints them over the translation fdfbfb24fe8feae3… (all of the seat's roots in one cut). By AI agents, Wed Nov 11 2026. No macro, syntax, notation, axiom, sorry.
-/
import Derived.Test.YtfkndbihfdjinaaChecked
import GoSem.Claim
import GoSem.ClaimJoined
import GoSem.ClaimMapViews
import Derived.JoinedTies
import Derived.KernelRfl
namespace Go.Proofs.Ytfkndbihfdjinaa
/- THE CELL 'sum', in the pinned program and in every row, IS THE sha256 OF THE DUMP (.gsa) THAT YtfkndbihfdjinaaProg.lean LOADS. Nothing in Lean hashes anything: it is a label: what it is worth is what the hold of that sum in a sandbox is worth. -/
noncomputable def Try.pinned : Pinned := { name := "ytfkndbihfdjinaa", sum := "fdfbfb24fe8feae33dc2ef28fc77df8822e0b25988a26325da63f2ba8f775151", checked := Try.checked }
namespace Rows
def none {H : Type} : Left H := { results := [], args := [] }

/-- 'millstreamlaw12.CommitAlone': WHATEVER THE INPUT: true; the input reads as it did. -/
def commitAloneSpec : ChangeSpec := { name := "commitAlone", fn := fun _ => fun
  | [d] => { results := [.lit (.bool true)], args := [d] }
  | _ => none }
def commitAloneRow : OpenClaim := { program := "ytfkndbihfdjinaa", sum := "fdfbfb24fe8feae33dc2ef28fc77df8822e0b25988a26325da63f2ba8f775151", func := "millstream/millstreamlaw12.CommitAlone", spec := "commitAlone", unfollowed := true, recurses := true, apart := false }
def CommitAloneSaid : Prop := commitAloneRow.holds Try.pinned (OpenSpec.ofChange commitAloneSpec)

/-- ITS FALSE NEIGHBOUR: 'it returns false'. Refute it at one input. -/
def commitAloneWrong : ChangeSpec := { name := "commitAlone", fn := fun _ => fun
  | [d] => { results := [.lit (.bool false)], args := [d] }
  | _ => none }
def CommitAloneWrongFalsely : Prop := commitAloneRow.holds Try.pinned (OpenSpec.ofChange commitAloneWrong)

/-- 'millstreamlaw12.CommitLogs': WHATEVER THE INPUT: true; the input reads as it did. -/
def commitLogsSpec : ChangeSpec := { name := "commitLogs", fn := fun _ => fun
  | [d] => { results := [.lit (.bool true)], args := [d] }
  | _ => none }
def commitLogsRow : OpenClaim := { program := "ytfkndbihfdjinaa", sum := "fdfbfb24fe8feae33dc2ef28fc77df8822e0b25988a26325da63f2ba8f775151", func := "millstream/millstreamlaw12.CommitLogs", spec := "commitLogs", unfollowed := true, recurses := true, apart := false }
def CommitLogsSaid : Prop := commitLogsRow.holds Try.pinned (OpenSpec.ofChange commitLogsSpec)

/-- ITS FALSE NEIGHBOUR: 'it returns false'. Refute it at one input. -/
def commitLogsWrong : ChangeSpec := { name := "commitLogs", fn := fun _ => fun
  | [d] => { results := [.lit (.bool false)], args := [d] }
  | _ => none }
def CommitLogsWrongFalsely : Prop := commitLogsRow.holds Try.pinned (OpenSpec.ofChange commitLogsWrong)

/-- 'millstreamlaw12.CommitFails': WHATEVER THE INPUT: true; the input reads as it did. -/
def commitFailsSpec : ChangeSpec := { name := "commitFails", fn := fun _ => fun
  | [d1, d2] => { results := [.lit (.bool true)], args := [d1, d2] }
  | _ => none }
def commitFailsRow : OpenClaim := { program := "ytfkndbihfdjinaa", sum := "fdfbfb24fe8feae33dc2ef28fc77df8822e0b25988a26325da63f2ba8f775151", func := "millstream/millstreamlaw12.CommitFails", spec := "commitFails", unfollowed := true, recurses := true, apart := false }
def CommitFailsSaid : Prop := commitFailsRow.holds Try.pinned (OpenSpec.ofChange commitFailsSpec)

/-- ITS FALSE NEIGHBOUR: 'it returns false'. Refute it at one input. -/
def commitFailsWrong : ChangeSpec := { name := "commitFails", fn := fun _ => fun
  | [d1, d2] => { results := [.lit (.bool false)], args := [d1, d2] }
  | _ => none }
def CommitFailsWrongFalsely : Prop := commitFailsRow.holds Try.pinned (OpenSpec.ofChange commitFailsWrong)

/-- 'millstreamlaw12.CommitRace': WHATEVER THE INPUT: true; the input reads as it did. -/
def commitRaceSpec : ChangeSpec := { name := "commitRace", fn := fun _ => fun
  | [d1, d2, d3] => { results := [.lit (.bool true)], args := [d1, d2, d3] }
  | _ => none }
def commitRaceRow : OpenClaim := { program := "ytfkndbihfdjinaa", sum := "fdfbfb24fe8feae33dc2ef28fc77df8822e0b25988a26325da63f2ba8f775151", func := "millstream/millstreamlaw12.CommitRace", spec := "commitRace", unfollowed := true, recurses := true, apart := false }
def CommitRaceSaid : Prop := commitRaceRow.holds Try.pinned (OpenSpec.ofChange commitRaceSpec)

/-- ITS FALSE NEIGHBOUR: 'it returns false'. Refute it at one input. -/
def commitRaceWrong : ChangeSpec := { name := "commitRace", fn := fun _ => fun
  | [d1, d2, d3] => { results := [.lit (.bool false)], args := [d1, d2, d3] }
  | _ => none }
def CommitRaceWrongFalsely : Prop := commitRaceRow.holds Try.pinned (OpenSpec.ofChange commitRaceWrong)

/-- 'millstreamlaw12.CommitOther': WHATEVER THE INPUT: true; the input reads as it did. -/
def commitOtherSpec : ChangeSpec := { name := "commitOther", fn := fun _ => fun
  | [d] => { results := [.lit (.bool true)], args := [d] }
  | _ => none }
def commitOtherRow : OpenClaim := { program := "ytfkndbihfdjinaa", sum := "fdfbfb24fe8feae33dc2ef28fc77df8822e0b25988a26325da63f2ba8f775151", func := "millstream/millstreamlaw12.CommitOther", spec := "commitOther", unfollowed := true, recurses := true, apart := false }
def CommitOtherSaid : Prop := commitOtherRow.holds Try.pinned (OpenSpec.ofChange commitOtherSpec)

/-- ITS FALSE NEIGHBOUR: 'it returns false'. Refute it at one input. -/
def commitOtherWrong : ChangeSpec := { name := "commitOther", fn := fun _ => fun
  | [d] => { results := [.lit (.bool false)], args := [d] }
  | _ => none }
def CommitOtherWrongFalsely : Prop := commitOtherRow.holds Try.pinned (OpenSpec.ofChange commitOtherWrong)

/- THE SECOND FORM. 'bulk': how many values and letters a reading holds, each counted each time it is reached (what is shared counts as often as it is met; a slice's spare places count too). A statement '..UptoSaid' is the law's where the arguments, and the package variables that the reading takes, are together of bulk at most 1048576: NARROWER than '..Said'. Prove '..Said' where nothing that the law and all that it calls make is longer than what came in: it says more and counts as full. Else prove '..UptoSaid'. A law counts once. -/
mutual
def uptoBulk {H : Type} : DataW H → Nat
  | .lit (.string bytes) => bytes.length + 1
  | .lit _ => 1
  | .nil => 1
  | .ptr d => uptoBulk d + 1
  | .slice elems spare => uptoBulkAll elems + uptoBulkAll spare + 1
  | .agg parts => uptoBulkAll parts + 1
  | .iface _ d => uptoBulk d + 1
  | .map entries => uptoBulkEntries entries + 1
  | .held _ => 1
def uptoBulkAll {H : Type} : List (DataW H) → Nat
  | [] => 0
  | d :: r => uptoBulk d + uptoBulkAll r
def uptoBulkEntries {H : Type} : List (Lit × DataW H) → Nat
  | [] => 0
  | x :: r => uptoBulkEntry x + uptoBulkEntries r
def uptoBulkEntry {H : Type} : Lit × DataW H → Nat
  | (.string bytes, d) => bytes.length + uptoBulk d + 1
  | (_, d) => uptoBulk d + 1
 end
def uptoSmall : (H : Type) → List (DataW H) → Bool := fun _ ds => decide (uptoBulkAll ds ≤ 1048576)
def OpenSpec.upto (s : _root_.Go.ChangeSpec) : _root_.Go.OpenSpec := { _root_.Go.OpenSpec.ofChange s with cond := some uptoSmall }

/-- 'millstreamlaw12.CommitAlone', WHERE WHAT IT READS IS OF BULK AT MOST 1048576: true; the input reads as it did. -/
def commitAloneUptoRow : OpenClaim := { program := "ytfkndbihfdjinaa", sum := "fdfbfb24fe8feae33dc2ef28fc77df8822e0b25988a26325da63f2ba8f775151", func := "millstream/millstreamlaw12.CommitAlone", spec := "commitAlone", unfollowed := true, recurses := true, apart := false, narrowed := true }
def CommitAloneUptoSaid : Prop := commitAloneUptoRow.holds Try.pinned (OpenSpec.upto commitAloneSpec)

/-- 'millstreamlaw12.CommitLogs', WHERE WHAT IT READS IS OF BULK AT MOST 1048576: true; the input reads as it did. -/
def commitLogsUptoRow : OpenClaim := { program := "ytfkndbihfdjinaa", sum := "fdfbfb24fe8feae33dc2ef28fc77df8822e0b25988a26325da63f2ba8f775151", func := "millstream/millstreamlaw12.CommitLogs", spec := "commitLogs", unfollowed := true, recurses := true, apart := false, narrowed := true }
def CommitLogsUptoSaid : Prop := commitLogsUptoRow.holds Try.pinned (OpenSpec.upto commitLogsSpec)

/-- 'millstreamlaw12.CommitFails', WHERE WHAT IT READS IS OF BULK AT MOST 1048576: true; the input reads as it did. -/
def commitFailsUptoRow : OpenClaim := { program := "ytfkndbihfdjinaa", sum := "fdfbfb24fe8feae33dc2ef28fc77df8822e0b25988a26325da63f2ba8f775151", func := "millstream/millstreamlaw12.CommitFails", spec := "commitFails", unfollowed := true, recurses := true, apart := false, narrowed := true }
def CommitFailsUptoSaid : Prop := commitFailsUptoRow.holds Try.pinned (OpenSpec.upto commitFailsSpec)

/-- 'millstreamlaw12.CommitRace', WHERE WHAT IT READS IS OF BULK AT MOST 1048576: true; the input reads as it did. -/
def commitRaceUptoRow : OpenClaim := { program := "ytfkndbihfdjinaa", sum := "fdfbfb24fe8feae33dc2ef28fc77df8822e0b25988a26325da63f2ba8f775151", func := "millstream/millstreamlaw12.CommitRace", spec := "commitRace", unfollowed := true, recurses := true, apart := false, narrowed := true }
def CommitRaceUptoSaid : Prop := commitRaceUptoRow.holds Try.pinned (OpenSpec.upto commitRaceSpec)

/-- 'millstreamlaw12.CommitOther', WHERE WHAT IT READS IS OF BULK AT MOST 1048576: true; the input reads as it did. -/
def commitOtherUptoRow : OpenClaim := { program := "ytfkndbihfdjinaa", sum := "fdfbfb24fe8feae33dc2ef28fc77df8822e0b25988a26325da63f2ba8f775151", func := "millstream/millstreamlaw12.CommitOther", spec := "commitOther", unfollowed := true, recurses := true, apart := false, narrowed := true }
def CommitOtherUptoSaid : Prop := commitOtherUptoRow.holds Try.pinned (OpenSpec.upto commitOtherSpec)

end Rows
end Go.Proofs.Ytfkndbihfdjinaa
