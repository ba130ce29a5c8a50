/-
  No cell of these rows narrows 'for every input' (looked for: loops, veiled, ifaces, maps, wideKeys, modest, calm, conditions, laid).
  DERIVED. THE GIVEN ROWS OF THIS SEAT. 6 by the template 'for every input the law returns true; each argument reads behind the call as it read before'; 0 by the template 'total and deterministic' (their statements: YtkdbccloniaogaaTotals.lean).
  GIVEN WITH THE SEED: the statements are not yours to turn. If you find one false, say at which input.
  Laid BY PROGRAM, IN A SANDBOX (cutbox-rows.mjs): the forced cells as the released guide's own fill.sh prints them over the translation c2a0eacb7126e819… (all of the seat's roots in one cut). By AI agents, Wed Nov 11 2026. No macro, syntax, notation, axiom, sorry.
-/
import Derived.Test.YtkdbccloniaogaaChecked
import GoSem.Claim
import GoSem.ClaimJoined
import GoSem.ClaimMapViews
import Derived.JoinedTies
import Derived.KernelRfl
namespace Go.Proofs.Ytkdbccloniaogaa
/- THE CELL 'sum', in the pinned program and in every row, IS THE sha256 OF THE DUMP (.gsa) THAT YtkdbccloniaogaaProg.lean LOADS. Nothing in Lean hashes anything: it is a label: what it is worth is what the hold of that sum in a sandbox is worth. -/
noncomputable def Try.pinned : Pinned := { name := "ytkdbccloniaogaa", sum := "c2a0eacb7126e8193f61f2062f68dd6cade8541736ebbf3293362ea989bdf53b", checked := Try.checked }
namespace Rows
def none {H : Type} : Left H := { results := [], args := [] }

/-- 'millstreamlaw09.ScriptChecks': WHATEVER THE INPUT: true; the input reads as it did. -/
def scriptChecksSpec : ChangeSpec := { name := "scriptChecks", fn := fun _ => fun
  | [d1, d2] => { results := [.lit (.bool true)], args := [d1, d2] }
  | _ => none }
def scriptChecksRow : OpenClaim := { program := "ytkdbccloniaogaa", sum := "c2a0eacb7126e8193f61f2062f68dd6cade8541736ebbf3293362ea989bdf53b", func := "millstream/millstreamlaw09.ScriptChecks", spec := "scriptChecks", unfollowed := true, recurses := true, apart := false }
def ScriptChecksSaid : Prop := scriptChecksRow.holds Try.pinned (OpenSpec.ofChange scriptChecksSpec)

/-- ITS FALSE NEIGHBOUR: 'it returns false'. Refute it at one input. -/
def scriptChecksWrong : ChangeSpec := { name := "scriptChecks", fn := fun _ => fun
  | [d1, d2] => { results := [.lit (.bool false)], args := [d1, d2] }
  | _ => none }
def ScriptChecksWrongFalsely : Prop := scriptChecksRow.holds Try.pinned (OpenSpec.ofChange scriptChecksWrong)

/-- 'millstreamlaw09.ScriptEncodes': WHATEVER THE INPUT: true; the input reads as it did. -/
def scriptEncodesSpec : ChangeSpec := { name := "scriptEncodes", fn := fun _ => fun
  | [d] => { results := [.lit (.bool true)], args := [d] }
  | _ => none }
def scriptEncodesRow : OpenClaim := { program := "ytkdbccloniaogaa", sum := "c2a0eacb7126e8193f61f2062f68dd6cade8541736ebbf3293362ea989bdf53b", func := "millstream/millstreamlaw09.ScriptEncodes", spec := "scriptEncodes", unfollowed := true, recurses := true, apart := false }
def ScriptEncodesSaid : Prop := scriptEncodesRow.holds Try.pinned (OpenSpec.ofChange scriptEncodesSpec)

/-- ITS FALSE NEIGHBOUR: 'it returns false'. Refute it at one input. -/
def scriptEncodesWrong : ChangeSpec := { name := "scriptEncodes", fn := fun _ => fun
  | [d] => { results := [.lit (.bool false)], args := [d] }
  | _ => none }
def ScriptEncodesWrongFalsely : Prop := scriptEncodesRow.holds Try.pinned (OpenSpec.ofChange scriptEncodesWrong)

/-- 'millstreamlaw09.ScriptDecodes': WHATEVER THE INPUT: true; the input reads as it did. -/
def scriptDecodesSpec : ChangeSpec := { name := "scriptDecodes", fn := fun _ => fun
  | [d] => { results := [.lit (.bool true)], args := [d] }
  | _ => none }
def scriptDecodesRow : OpenClaim := { program := "ytkdbccloniaogaa", sum := "c2a0eacb7126e8193f61f2062f68dd6cade8541736ebbf3293362ea989bdf53b", func := "millstream/millstreamlaw09.ScriptDecodes", spec := "scriptDecodes", unfollowed := true, recurses := true, apart := false }
def ScriptDecodesSaid : Prop := scriptDecodesRow.holds Try.pinned (OpenSpec.ofChange scriptDecodesSpec)

/-- ITS FALSE NEIGHBOUR: 'it returns false'. Refute it at one input. -/
def scriptDecodesWrong : ChangeSpec := { name := "scriptDecodes", fn := fun _ => fun
  | [d] => { results := [.lit (.bool false)], args := [d] }
  | _ => none }
def ScriptDecodesWrongFalsely : Prop := scriptDecodesRow.holds Try.pinned (OpenSpec.ofChange scriptDecodesWrong)

/-- 'millstreamlaw09.ScriptBack': WHATEVER THE INPUT: true; the input reads as it did. -/
def scriptBackSpec : ChangeSpec := { name := "scriptBack", fn := fun _ => fun
  | [d1, d2, d3] => { results := [.lit (.bool true)], args := [d1, d2, d3] }
  | _ => none }
def scriptBackRow : OpenClaim := { program := "ytkdbccloniaogaa", sum := "c2a0eacb7126e8193f61f2062f68dd6cade8541736ebbf3293362ea989bdf53b", func := "millstream/millstreamlaw09.ScriptBack", spec := "scriptBack", unfollowed := true, recurses := true, apart := false }
def ScriptBackSaid : Prop := scriptBackRow.holds Try.pinned (OpenSpec.ofChange scriptBackSpec)

/-- ITS FALSE NEIGHBOUR: 'it returns false'. Refute it at one input. -/
def scriptBackWrong : ChangeSpec := { name := "scriptBack", fn := fun _ => fun
  | [d1, d2, d3] => { results := [.lit (.bool false)], args := [d1, d2, d3] }
  | _ => none }
def ScriptBackWrongFalsely : Prop := scriptBackRow.holds Try.pinned (OpenSpec.ofChange scriptBackWrong)

/-- 'millstreamlaw09.ScriptJoins': WHATEVER THE INPUT: true; the input reads as it did. -/
def scriptJoinsSpec : ChangeSpec := { name := "scriptJoins", fn := fun _ => fun
  | [d1, d2, d3] => { results := [.lit (.bool true)], args := [d1, d2, d3] }
  | _ => none }
def scriptJoinsRow : OpenClaim := { program := "ytkdbccloniaogaa", sum := "c2a0eacb7126e8193f61f2062f68dd6cade8541736ebbf3293362ea989bdf53b", func := "millstream/millstreamlaw09.ScriptJoins", spec := "scriptJoins", unfollowed := true, recurses := true, apart := false }
def ScriptJoinsSaid : Prop := scriptJoinsRow.holds Try.pinned (OpenSpec.ofChange scriptJoinsSpec)

/-- ITS FALSE NEIGHBOUR: 'it returns false'. Refute it at one input. -/
def scriptJoinsWrong : ChangeSpec := { name := "scriptJoins", fn := fun _ => fun
  | [d1, d2, d3] => { results := [.lit (.bool false)], args := [d1, d2, d3] }
  | _ => none }
def ScriptJoinsWrongFalsely : Prop := scriptJoinsRow.holds Try.pinned (OpenSpec.ofChange scriptJoinsWrong)

/-- 'millstreamlaw09.ScriptCut': WHATEVER THE INPUT: true; the input reads as it did. -/
def scriptCutSpec : ChangeSpec := { name := "scriptCut", fn := fun _ => fun
  | [d1, d2, d3] => { results := [.lit (.bool true)], args := [d1, d2, d3] }
  | _ => none }
def scriptCutRow : OpenClaim := { program := "ytkdbccloniaogaa", sum := "c2a0eacb7126e8193f61f2062f68dd6cade8541736ebbf3293362ea989bdf53b", func := "millstream/millstreamlaw09.ScriptCut", spec := "scriptCut", unfollowed := true, recurses := true, apart := false }
def ScriptCutSaid : Prop := scriptCutRow.holds Try.pinned (OpenSpec.ofChange scriptCutSpec)

/-- ITS FALSE NEIGHBOUR: 'it returns false'. Refute it at one input. -/
def scriptCutWrong : ChangeSpec := { name := "scriptCut", fn := fun _ => fun
  | [d1, d2, d3] => { results := [.lit (.bool false)], args := [d1, d2, d3] }
  | _ => none }
def ScriptCutWrongFalsely : Prop := scriptCutRow.holds Try.pinned (OpenSpec.ofChange scriptCutWrong)

/- THE SECOND FORM. 'bulk': how many values and letters a reading holds, each counted each time it is reached (what is shared counts as often as it is met; a slice's spare places count too). A statement '..UptoSaid' is the law's where the arguments, and the package variables that the reading takes, are together of bulk at most 1048576: NARROWER than '..Said'. Prove '..Said' where nothing that the law and all that it calls make is longer than what came in: it says more and counts as full. Else prove '..UptoSaid'. A law counts once. -/
mutual
def uptoBulk {H : Type} : DataW H → Nat
  | .lit (.string bytes) => bytes.length + 1
  | .lit _ => 1
  | .nil => 1
  | .ptr d => uptoBulk d + 1
  | .slice elems spare => uptoBulkAll elems + uptoBulkAll spare + 1
  | .agg parts => uptoBulkAll parts + 1
  | .iface _ d => uptoBulk d + 1
  | .map entries => uptoBulkEntries entries + 1
  | .held _ => 1
def uptoBulkAll {H : Type} : List (DataW H) → Nat
  | [] => 0
  | d :: r => uptoBulk d + uptoBulkAll r
def uptoBulkEntries {H : Type} : List (Lit × DataW H) → Nat
  | [] => 0
  | x :: r => uptoBulkEntry x + uptoBulkEntries r
def uptoBulkEntry {H : Type} : Lit × DataW H → Nat
  | (.string bytes, d) => bytes.length + uptoBulk d + 1
  | (_, d) => uptoBulk d + 1
 end
def uptoSmall : (H : Type) → List (DataW H) → Bool := fun _ ds => decide (uptoBulkAll ds ≤ 1048576)
def OpenSpec.upto (s : _root_.Go.ChangeSpec) : _root_.Go.OpenSpec := { _root_.Go.OpenSpec.ofChange s with cond := some uptoSmall }

/-- 'millstreamlaw09.ScriptChecks', WHERE WHAT IT READS IS OF BULK AT MOST 1048576: true; the input reads as it did. -/
def scriptChecksUptoRow : OpenClaim := { program := "ytkdbccloniaogaa", sum := "c2a0eacb7126e8193f61f2062f68dd6cade8541736ebbf3293362ea989bdf53b", func := "millstream/millstreamlaw09.ScriptChecks", spec := "scriptChecks", unfollowed := true, recurses := true, apart := false, narrowed := true }
def ScriptChecksUptoSaid : Prop := scriptChecksUptoRow.holds Try.pinned (OpenSpec.upto scriptChecksSpec)

/-- 'millstreamlaw09.ScriptEncodes', WHERE WHAT IT READS IS OF BULK AT MOST 1048576: true; the input reads as it did. -/
def scriptEncodesUptoRow : OpenClaim := { program := "ytkdbccloniaogaa", sum := "c2a0eacb7126e8193f61f2062f68dd6cade8541736ebbf3293362ea989bdf53b", func := "millstream/millstreamlaw09.ScriptEncodes", spec := "scriptEncodes", unfollowed := true, recurses := true, apart := false, narrowed := true }
def ScriptEncodesUptoSaid : Prop := scriptEncodesUptoRow.holds Try.pinned (OpenSpec.upto scriptEncodesSpec)

/-- 'millstreamlaw09.ScriptDecodes', WHERE WHAT IT READS IS OF BULK AT MOST 1048576: true; the input reads as it did. -/
def scriptDecodesUptoRow : OpenClaim := { program := "ytkdbccloniaogaa", sum := "c2a0eacb7126e8193f61f2062f68dd6cade8541736ebbf3293362ea989bdf53b", func := "millstream/millstreamlaw09.ScriptDecodes", spec := "scriptDecodes", unfollowed := true, recurses := true, apart := false, narrowed := true }
def ScriptDecodesUptoSaid : Prop := scriptDecodesUptoRow.holds Try.pinned (OpenSpec.upto scriptDecodesSpec)

/-- 'millstreamlaw09.ScriptBack', WHERE WHAT IT READS IS OF BULK AT MOST 1048576: true; the input reads as it did. -/
def scriptBackUptoRow : OpenClaim := { program := "ytkdbccloniaogaa", sum := "c2a0eacb7126e8193f61f2062f68dd6cade8541736ebbf3293362ea989bdf53b", func := "millstream/millstreamlaw09.ScriptBack", spec := "scriptBack", unfollowed := true, recurses := true, apart := false, narrowed := true }
def ScriptBackUptoSaid : Prop := scriptBackUptoRow.holds Try.pinned (OpenSpec.upto scriptBackSpec)

/-- 'millstreamlaw09.ScriptJoins', WHERE WHAT IT READS IS OF BULK AT MOST 1048576: true; the input reads as it did. -/
def scriptJoinsUptoRow : OpenClaim := { program := "ytkdbccloniaogaa", sum := "c2a0eacb7126e8193f61f2062f68dd6cade8541736ebbf3293362ea989bdf53b", func := "millstream/millstreamlaw09.ScriptJoins", spec := "scriptJoins", unfollowed := true, recurses := true, apart := false, narrowed := true }
def ScriptJoinsUptoSaid : Prop := scriptJoinsUptoRow.holds Try.pinned (OpenSpec.upto scriptJoinsSpec)

/-- 'millstreamlaw09.ScriptCut', WHERE WHAT IT READS IS OF BULK AT MOST 1048576: true; the input reads as it did. -/
def scriptCutUptoRow : OpenClaim := { program := "ytkdbccloniaogaa", sum := "c2a0eacb7126e8193f61f2062f68dd6cade8541736ebbf3293362ea989bdf53b", func := "millstream/millstreamlaw09.ScriptCut", spec := "scriptCut", unfollowed := true, recurses := true, apart := false, narrowed := true }
def ScriptCutUptoSaid : Prop := scriptCutUptoRow.holds Try.pinned (OpenSpec.upto scriptCutSpec)

end Rows
end Go.Proofs.Ytkdbccloniaogaa
