/-
  No cell of these rows narrows 'for every input' (looked for: loops, veiled, ifaces, maps, wideKeys, modest, calm, conditions, laid).
  DERIVED. THE GIVEN ROWS OF THIS SEAT. 5 by the template 'for every input the law returns true; each argument reads behind the call as it read before'; 0 by the template 'total and deterministic' (their statements: YtalmkdahapemcaaTotals.lean).
  GIVEN WITH THE SEED: the statements are not yours to turn. If you find one false, say at which input.
  Laid BY PROGRAM, IN A SANDBOX (cutbox-rows.mjs): the forced cells as the released guide's own fill.sh prints them over the translation 42a05b9247435e0e… (all of the seat's roots in one cut). By AI agents, Wed Nov 11 2026. No macro, syntax, notation, axiom, sorry.
-/
import Derived.Test.YtalmkdahapemcaaChecked
import GoSem.Claim
import GoSem.ClaimJoined
import GoSem.ClaimMapViews
import Derived.JoinedTies
import Derived.KernelRfl
namespace Go.Proofs.Ytalmkdahapemcaa
/- THE CELL 'sum', in the pinned program and in every row, IS THE sha256 OF THE DUMP (.gsa) THAT YtalmkdahapemcaaProg.lean LOADS. Nothing in Lean hashes anything: it is a label: what it is worth is what the hold of that sum in a sandbox is worth. -/
noncomputable def Try.pinned : Pinned := { name := "ytalmkdahapemcaa", sum := "42a05b9247435e0ea115768508dcd474281a5e31fe683f7467efff6892a81a22", checked := Try.checked }
namespace Rows
def none {H : Type} : Left H := { results := [], args := [] }

/-- 'millstreamlaw05.ConfigChecks': WHATEVER THE INPUT: true; the input reads as it did. -/
def configChecksSpec : ChangeSpec := { name := "configChecks", fn := fun _ => fun
  | [d] => { results := [.lit (.bool true)], args := [d] }
  | _ => none }
def configChecksRow : OpenClaim := { program := "ytalmkdahapemcaa", sum := "42a05b9247435e0ea115768508dcd474281a5e31fe683f7467efff6892a81a22", func := "millstream/millstreamlaw05.ConfigChecks", spec := "configChecks", apart := false }
def ConfigChecksSaid : Prop := configChecksRow.holds Try.pinned (OpenSpec.ofChange configChecksSpec)

/-- ITS FALSE NEIGHBOUR: 'it returns false'. Refute it at one input. -/
def configChecksWrong : ChangeSpec := { name := "configChecks", fn := fun _ => fun
  | [d] => { results := [.lit (.bool false)], args := [d] }
  | _ => none }
def ConfigChecksWrongFalsely : Prop := configChecksRow.holds Try.pinned (OpenSpec.ofChange configChecksWrong)

/-- 'millstreamlaw05.ConfigSpoilt': WHATEVER THE INPUT: true; the input reads as it did. -/
def configSpoiltSpec : ChangeSpec := { name := "configSpoilt", fn := fun _ => fun
  | [d1, d2, d3] => { results := [.lit (.bool true)], args := [d1, d2, d3] }
  | _ => none }
def configSpoiltRow : OpenClaim := { program := "ytalmkdahapemcaa", sum := "42a05b9247435e0ea115768508dcd474281a5e31fe683f7467efff6892a81a22", func := "millstream/millstreamlaw05.ConfigSpoilt", spec := "configSpoilt", apart := false }
def ConfigSpoiltSaid : Prop := configSpoiltRow.holds Try.pinned (OpenSpec.ofChange configSpoiltSpec)

/-- ITS FALSE NEIGHBOUR: 'it returns false'. Refute it at one input. -/
def configSpoiltWrong : ChangeSpec := { name := "configSpoilt", fn := fun _ => fun
  | [d1, d2, d3] => { results := [.lit (.bool false)], args := [d1, d2, d3] }
  | _ => none }
def ConfigSpoiltWrongFalsely : Prop := configSpoiltRow.holds Try.pinned (OpenSpec.ofChange configSpoiltWrong)

/-- 'millstreamlaw05.ConfigBounds': WHATEVER THE INPUT: true; the input reads as it did. -/
def configBoundsSpec : ChangeSpec := { name := "configBounds", fn := fun _ => fun
  | [d1, d2, d3] => { results := [.lit (.bool true)], args := [d1, d2, d3] }
  | _ => none }
def configBoundsRow : OpenClaim := { program := "ytalmkdahapemcaa", sum := "42a05b9247435e0ea115768508dcd474281a5e31fe683f7467efff6892a81a22", func := "millstream/millstreamlaw05.ConfigBounds", spec := "configBounds", apart := false }
def ConfigBoundsSaid : Prop := configBoundsRow.holds Try.pinned (OpenSpec.ofChange configBoundsSpec)

/-- ITS FALSE NEIGHBOUR: 'it returns false'. Refute it at one input. -/
def configBoundsWrong : ChangeSpec := { name := "configBounds", fn := fun _ => fun
  | [d1, d2, d3] => { results := [.lit (.bool false)], args := [d1, d2, d3] }
  | _ => none }
def ConfigBoundsWrongFalsely : Prop := configBoundsRow.holds Try.pinned (OpenSpec.ofChange configBoundsWrong)

/-- 'millstreamlaw05.ConfigFirst': WHATEVER THE INPUT: true; the input reads as it did. -/
def configFirstSpec : ChangeSpec := { name := "configFirst", fn := fun _ => fun
  | [d1, d2, d3] => { results := [.lit (.bool true)], args := [d1, d2, d3] }
  | _ => none }
def configFirstRow : OpenClaim := { program := "ytalmkdahapemcaa", sum := "42a05b9247435e0ea115768508dcd474281a5e31fe683f7467efff6892a81a22", func := "millstream/millstreamlaw05.ConfigFirst", spec := "configFirst", apart := false }
def ConfigFirstSaid : Prop := configFirstRow.holds Try.pinned (OpenSpec.ofChange configFirstSpec)

/-- ITS FALSE NEIGHBOUR: 'it returns false'. Refute it at one input. -/
def configFirstWrong : ChangeSpec := { name := "configFirst", fn := fun _ => fun
  | [d1, d2, d3] => { results := [.lit (.bool false)], args := [d1, d2, d3] }
  | _ => none }
def ConfigFirstWrongFalsely : Prop := configFirstRow.holds Try.pinned (OpenSpec.ofChange configFirstWrong)

/-- 'millstreamlaw05.ConfigLonger': WHATEVER THE INPUT: true; the input reads as it did. -/
def configLongerSpec : ChangeSpec := { name := "configLonger", fn := fun _ => fun
  | [d1, d2] => { results := [.lit (.bool true)], args := [d1, d2] }
  | _ => none }
def configLongerRow : OpenClaim := { program := "ytalmkdahapemcaa", sum := "42a05b9247435e0ea115768508dcd474281a5e31fe683f7467efff6892a81a22", func := "millstream/millstreamlaw05.ConfigLonger", spec := "configLonger", apart := false }
def ConfigLongerSaid : Prop := configLongerRow.holds Try.pinned (OpenSpec.ofChange configLongerSpec)

/-- ITS FALSE NEIGHBOUR: 'it returns false'. Refute it at one input. -/
def configLongerWrong : ChangeSpec := { name := "configLonger", fn := fun _ => fun
  | [d1, d2] => { results := [.lit (.bool false)], args := [d1, d2] }
  | _ => none }
def ConfigLongerWrongFalsely : Prop := configLongerRow.holds Try.pinned (OpenSpec.ofChange configLongerWrong)

/- THE SECOND FORM. 'bulk': how many values and letters a reading holds, each counted each time it is reached (what is shared counts as often as it is met; a slice's spare places count too). A statement '..UptoSaid' is the law's where the arguments, and the package variables that the reading takes, are together of bulk at most 1048576: NARROWER than '..Said'. Prove '..Said' where nothing that the law and all that it calls make is longer than what came in: it says more and counts as full. Else prove '..UptoSaid'. A law counts once. -/
mutual
def uptoBulk {H : Type} : DataW H → Nat
  | .lit (.string bytes) => bytes.length + 1
  | .lit _ => 1
  | .nil => 1
  | .ptr d => uptoBulk d + 1
  | .slice elems spare => uptoBulkAll elems + uptoBulkAll spare + 1
  | .agg parts => uptoBulkAll parts + 1
  | .iface _ d => uptoBulk d + 1
  | .map entries => uptoBulkEntries entries + 1
  | .held _ => 1
def uptoBulkAll {H : Type} : List (DataW H) → Nat
  | [] => 0
  | d :: r => uptoBulk d + uptoBulkAll r
def uptoBulkEntries {H : Type} : List (Lit × DataW H) → Nat
  | [] => 0
  | x :: r => uptoBulkEntry x + uptoBulkEntries r
def uptoBulkEntry {H : Type} : Lit × DataW H → Nat
  | (.string bytes, d) => bytes.length + uptoBulk d + 1
  | (_, d) => uptoBulk d + 1
 end
def uptoSmall : (H : Type) → List (DataW H) → Bool := fun _ ds => decide (uptoBulkAll ds ≤ 1048576)
def OpenSpec.upto (s : _root_.Go.ChangeSpec) : _root_.Go.OpenSpec := { _root_.Go.OpenSpec.ofChange s with cond := some uptoSmall }

/-- 'millstreamlaw05.ConfigChecks', WHERE WHAT IT READS IS OF BULK AT MOST 1048576: true; the input reads as it did. -/
def configChecksUptoRow : OpenClaim := { program := "ytalmkdahapemcaa", sum := "42a05b9247435e0ea115768508dcd474281a5e31fe683f7467efff6892a81a22", func := "millstream/millstreamlaw05.ConfigChecks", spec := "configChecks", apart := false, narrowed := true }
def ConfigChecksUptoSaid : Prop := configChecksUptoRow.holds Try.pinned (OpenSpec.upto configChecksSpec)

/-- 'millstreamlaw05.ConfigSpoilt', WHERE WHAT IT READS IS OF BULK AT MOST 1048576: true; the input reads as it did. -/
def configSpoiltUptoRow : OpenClaim := { program := "ytalmkdahapemcaa", sum := "42a05b9247435e0ea115768508dcd474281a5e31fe683f7467efff6892a81a22", func := "millstream/millstreamlaw05.ConfigSpoilt", spec := "configSpoilt", apart := false, narrowed := true }
def ConfigSpoiltUptoSaid : Prop := configSpoiltUptoRow.holds Try.pinned (OpenSpec.upto configSpoiltSpec)

/-- 'millstreamlaw05.ConfigBounds', WHERE WHAT IT READS IS OF BULK AT MOST 1048576: true; the input reads as it did. -/
def configBoundsUptoRow : OpenClaim := { program := "ytalmkdahapemcaa", sum := "42a05b9247435e0ea115768508dcd474281a5e31fe683f7467efff6892a81a22", func := "millstream/millstreamlaw05.ConfigBounds", spec := "configBounds", apart := false, narrowed := true }
def ConfigBoundsUptoSaid : Prop := configBoundsUptoRow.holds Try.pinned (OpenSpec.upto configBoundsSpec)

/-- 'millstreamlaw05.ConfigFirst', WHERE WHAT IT READS IS OF BULK AT MOST 1048576: true; the input reads as it did. -/
def configFirstUptoRow : OpenClaim := { program := "ytalmkdahapemcaa", sum := "42a05b9247435e0ea115768508dcd474281a5e31fe683f7467efff6892a81a22", func := "millstream/millstreamlaw05.ConfigFirst", spec := "configFirst", apart := false, narrowed := true }
def ConfigFirstUptoSaid : Prop := configFirstUptoRow.holds Try.pinned (OpenSpec.upto configFirstSpec)

/-- 'millstreamlaw05.ConfigLonger', WHERE WHAT IT READS IS OF BULK AT MOST 1048576: true; the input reads as it did. -/
def configLongerUptoRow : OpenClaim := { program := "ytalmkdahapemcaa", sum := "42a05b9247435e0ea115768508dcd474281a5e31fe683f7467efff6892a81a22", func := "millstream/millstreamlaw05.ConfigLonger", spec := "configLonger", apart := false, narrowed := true }
def ConfigLongerUptoSaid : Prop := configLongerUptoRow.holds Try.pinned (OpenSpec.upto configLongerSpec)

end Rows
end Go.Proofs.Ytalmkdahapemcaa
