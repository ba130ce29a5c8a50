/-
  No cell of these rows narrows 'for every input' (looked for: loops, veiled, ifaces, maps, wideKeys, modest, calm, conditions, laid).
  DERIVED. THE GIVEN ROWS OF THIS SEAT. 6 by the template 'for every input the law returns true; each argument reads behind the call as it read before'; 0 by the template 'total and deterministic' (their statements: YtnpohdnijgkkdaaTotals.lean).
  GIVEN WITH THE SEED: the statements are not yours to turn. If you find one false, say at which input.
  Laid BY PROGRAM, IN A SANDBOX (cutbox-rows.mjs): the forced cells as the released guide's own fill.sh prints them over the translation 5afd0f2581063699… (all of the seat's roots in one cut). By AI agents, Wed Nov 11 2026. No macro, syntax, notation, axiom, sorry.
-/
import Derived.Test.YtnpohdnijgkkdaaChecked
import GoSem.Claim
import GoSem.ClaimJoined
import GoSem.ClaimMapViews
import Derived.JoinedTies
import Derived.KernelRfl
namespace Go.Proofs.Ytnpohdnijgkkdaa
/- THE CELL 'sum', in the pinned program and in every row, IS THE sha256 OF THE DUMP (.gsa) THAT YtnpohdnijgkkdaaProg.lean LOADS. Nothing in Lean hashes anything: it is a label: what it is worth is what the hold of that sum in a sandbox is worth. -/
noncomputable def Try.pinned : Pinned := { name := "ytnpohdnijgkkdaa", sum := "5afd0f258106369983da4db244b641b7c8e012750a1e80078f402bfd36ee7a87", checked := Try.checked }
namespace Rows
def none {H : Type} : Left H := { results := [], args := [] }

/-- 'millstreamlaw10.ThreadBegins': WHATEVER THE INPUT: true; the input reads as it did. -/
def threadBeginsSpec : ChangeSpec := { name := "threadBegins", fn := fun _ => fun
  | [d1, d2, d3, d4, d5, d6] => { results := [.lit (.bool true)], args := [d1, d2, d3, d4, d5, d6] }
  | _ => none }
def threadBeginsRow : OpenClaim := { program := "ytnpohdnijgkkdaa", sum := "5afd0f258106369983da4db244b641b7c8e012750a1e80078f402bfd36ee7a87", func := "millstream/millstreamlaw10.ThreadBegins", spec := "threadBegins", apart := false }
def ThreadBeginsSaid : Prop := threadBeginsRow.holds Try.pinned (OpenSpec.ofChange threadBeginsSpec)

/-- ITS FALSE NEIGHBOUR: 'it returns false'. Refute it at one input. -/
def threadBeginsWrong : ChangeSpec := { name := "threadBegins", fn := fun _ => fun
  | [d1, d2, d3, d4, d5, d6] => { results := [.lit (.bool false)], args := [d1, d2, d3, d4, d5, d6] }
  | _ => none }
def ThreadBeginsWrongFalsely : Prop := threadBeginsRow.holds Try.pinned (OpenSpec.ofChange threadBeginsWrong)

/-- 'millstreamlaw10.ThreadTells': WHATEVER THE INPUT: true; the input reads as it did. -/
def threadTellsSpec : ChangeSpec := { name := "threadTells", fn := fun _ => fun
  | [d1, d2] => { results := [.lit (.bool true)], args := [d1, d2] }
  | _ => none }
def threadTellsRow : OpenClaim := { program := "ytnpohdnijgkkdaa", sum := "5afd0f258106369983da4db244b641b7c8e012750a1e80078f402bfd36ee7a87", func := "millstream/millstreamlaw10.ThreadTells", spec := "threadTells", apart := false }
def ThreadTellsSaid : Prop := threadTellsRow.holds Try.pinned (OpenSpec.ofChange threadTellsSpec)

/-- ITS FALSE NEIGHBOUR: 'it returns false'. Refute it at one input. -/
def threadTellsWrong : ChangeSpec := { name := "threadTells", fn := fun _ => fun
  | [d1, d2] => { results := [.lit (.bool false)], args := [d1, d2] }
  | _ => none }
def ThreadTellsWrongFalsely : Prop := threadTellsRow.holds Try.pinned (OpenSpec.ofChange threadTellsWrong)

/-- 'millstreamlaw10.ThreadWaits': WHATEVER THE INPUT: true; the input reads as it did. -/
def threadWaitsSpec : ChangeSpec := { name := "threadWaits", fn := fun _ => fun
  | [d1, d2, d3] => { results := [.lit (.bool true)], args := [d1, d2, d3] }
  | _ => none }
def threadWaitsRow : OpenClaim := { program := "ytnpohdnijgkkdaa", sum := "5afd0f258106369983da4db244b641b7c8e012750a1e80078f402bfd36ee7a87", func := "millstream/millstreamlaw10.ThreadWaits", spec := "threadWaits", apart := false }
def ThreadWaitsSaid : Prop := threadWaitsRow.holds Try.pinned (OpenSpec.ofChange threadWaitsSpec)

/-- ITS FALSE NEIGHBOUR: 'it returns false'. Refute it at one input. -/
def threadWaitsWrong : ChangeSpec := { name := "threadWaits", fn := fun _ => fun
  | [d1, d2, d3] => { results := [.lit (.bool false)], args := [d1, d2, d3] }
  | _ => none }
def ThreadWaitsWrongFalsely : Prop := threadWaitsRow.holds Try.pinned (OpenSpec.ofChange threadWaitsWrong)

/-- 'millstreamlaw10.ThreadKeeps': WHATEVER THE INPUT: true; the input reads as it did. -/
def threadKeepsSpec : ChangeSpec := { name := "threadKeeps", fn := fun _ => fun
  | [d1, d2, d3, d4, d5, d6, d7] => { results := [.lit (.bool true)], args := [d1, d2, d3, d4, d5, d6, d7] }
  | _ => none }
def threadKeepsRow : OpenClaim := { program := "ytnpohdnijgkkdaa", sum := "5afd0f258106369983da4db244b641b7c8e012750a1e80078f402bfd36ee7a87", func := "millstream/millstreamlaw10.ThreadKeeps", spec := "threadKeeps", apart := false }
def ThreadKeepsSaid : Prop := threadKeepsRow.holds Try.pinned (OpenSpec.ofChange threadKeepsSpec)

/-- ITS FALSE NEIGHBOUR: 'it returns false'. Refute it at one input. -/
def threadKeepsWrong : ChangeSpec := { name := "threadKeeps", fn := fun _ => fun
  | [d1, d2, d3, d4, d5, d6, d7] => { results := [.lit (.bool false)], args := [d1, d2, d3, d4, d5, d6, d7] }
  | _ => none }
def ThreadKeepsWrongFalsely : Prop := threadKeepsRow.holds Try.pinned (OpenSpec.ofChange threadKeepsWrong)

/-- 'millstreamlaw10.ThreadLater': WHATEVER THE INPUT: true; the input reads as it did. -/
def threadLaterSpec : ChangeSpec := { name := "threadLater", fn := fun _ => fun
  | [d1, d2] => { results := [.lit (.bool true)], args := [d1, d2] }
  | _ => none }
def threadLaterRow : OpenClaim := { program := "ytnpohdnijgkkdaa", sum := "5afd0f258106369983da4db244b641b7c8e012750a1e80078f402bfd36ee7a87", func := "millstream/millstreamlaw10.ThreadLater", spec := "threadLater", apart := false }
def ThreadLaterSaid : Prop := threadLaterRow.holds Try.pinned (OpenSpec.ofChange threadLaterSpec)

/-- ITS FALSE NEIGHBOUR: 'it returns false'. Refute it at one input. -/
def threadLaterWrong : ChangeSpec := { name := "threadLater", fn := fun _ => fun
  | [d1, d2] => { results := [.lit (.bool false)], args := [d1, d2] }
  | _ => none }
def ThreadLaterWrongFalsely : Prop := threadLaterRow.holds Try.pinned (OpenSpec.ofChange threadLaterWrong)

/-- 'millstreamlaw10.ThreadSame': WHATEVER THE INPUT: true; the input reads as it did. -/
def threadSameSpec : ChangeSpec := { name := "threadSame", fn := fun _ => fun
  | [d1, d2, d3] => { results := [.lit (.bool true)], args := [d1, d2, d3] }
  | _ => none }
def threadSameRow : OpenClaim := { program := "ytnpohdnijgkkdaa", sum := "5afd0f258106369983da4db244b641b7c8e012750a1e80078f402bfd36ee7a87", func := "millstream/millstreamlaw10.ThreadSame", spec := "threadSame", apart := false }
def ThreadSameSaid : Prop := threadSameRow.holds Try.pinned (OpenSpec.ofChange threadSameSpec)

/-- ITS FALSE NEIGHBOUR: 'it returns false'. Refute it at one input. -/
def threadSameWrong : ChangeSpec := { name := "threadSame", fn := fun _ => fun
  | [d1, d2, d3] => { results := [.lit (.bool false)], args := [d1, d2, d3] }
  | _ => none }
def ThreadSameWrongFalsely : Prop := threadSameRow.holds Try.pinned (OpenSpec.ofChange threadSameWrong)

/- THE SECOND FORM. 'bulk': how many values and letters a reading holds, each counted each time it is reached (what is shared counts as often as it is met; a slice's spare places count too). A statement '..UptoSaid' is the law's where the arguments, and the package variables that the reading takes, are together of bulk at most 1048576: NARROWER than '..Said'. Prove '..Said' where nothing that the law and all that it calls make is longer than what came in: it says more and counts as full. Else prove '..UptoSaid'. A law counts once. -/
mutual
def uptoBulk {H : Type} : DataW H → Nat
  | .lit (.string bytes) => bytes.length + 1
  | .lit _ => 1
  | .nil => 1
  | .ptr d => uptoBulk d + 1
  | .slice elems spare => uptoBulkAll elems + uptoBulkAll spare + 1
  | .agg parts => uptoBulkAll parts + 1
  | .iface _ d => uptoBulk d + 1
  | .map entries => uptoBulkEntries entries + 1
  | .held _ => 1
def uptoBulkAll {H : Type} : List (DataW H) → Nat
  | [] => 0
  | d :: r => uptoBulk d + uptoBulkAll r
def uptoBulkEntries {H : Type} : List (Lit × DataW H) → Nat
  | [] => 0
  | x :: r => uptoBulkEntry x + uptoBulkEntries r
def uptoBulkEntry {H : Type} : Lit × DataW H → Nat
  | (.string bytes, d) => bytes.length + uptoBulk d + 1
  | (_, d) => uptoBulk d + 1
 end
def uptoSmall : (H : Type) → List (DataW H) → Bool := fun _ ds => decide (uptoBulkAll ds ≤ 1048576)
def OpenSpec.upto (s : _root_.Go.ChangeSpec) : _root_.Go.OpenSpec := { _root_.Go.OpenSpec.ofChange s with cond := some uptoSmall }

/-- 'millstreamlaw10.ThreadBegins', WHERE WHAT IT READS IS OF BULK AT MOST 1048576: true; the input reads as it did. -/
def threadBeginsUptoRow : OpenClaim := { program := "ytnpohdnijgkkdaa", sum := "5afd0f258106369983da4db244b641b7c8e012750a1e80078f402bfd36ee7a87", func := "millstream/millstreamlaw10.ThreadBegins", spec := "threadBegins", apart := false, narrowed := true }
def ThreadBeginsUptoSaid : Prop := threadBeginsUptoRow.holds Try.pinned (OpenSpec.upto threadBeginsSpec)

/-- 'millstreamlaw10.ThreadTells', WHERE WHAT IT READS IS OF BULK AT MOST 1048576: true; the input reads as it did. -/
def threadTellsUptoRow : OpenClaim := { program := "ytnpohdnijgkkdaa", sum := "5afd0f258106369983da4db244b641b7c8e012750a1e80078f402bfd36ee7a87", func := "millstream/millstreamlaw10.ThreadTells", spec := "threadTells", apart := false, narrowed := true }
def ThreadTellsUptoSaid : Prop := threadTellsUptoRow.holds Try.pinned (OpenSpec.upto threadTellsSpec)

/-- 'millstreamlaw10.ThreadWaits', WHERE WHAT IT READS IS OF BULK AT MOST 1048576: true; the input reads as it did. -/
def threadWaitsUptoRow : OpenClaim := { program := "ytnpohdnijgkkdaa", sum := "5afd0f258106369983da4db244b641b7c8e012750a1e80078f402bfd36ee7a87", func := "millstream/millstreamlaw10.ThreadWaits", spec := "threadWaits", apart := false, narrowed := true }
def ThreadWaitsUptoSaid : Prop := threadWaitsUptoRow.holds Try.pinned (OpenSpec.upto threadWaitsSpec)

/-- 'millstreamlaw10.ThreadKeeps', WHERE WHAT IT READS IS OF BULK AT MOST 1048576: true; the input reads as it did. -/
def threadKeepsUptoRow : OpenClaim := { program := "ytnpohdnijgkkdaa", sum := "5afd0f258106369983da4db244b641b7c8e012750a1e80078f402bfd36ee7a87", func := "millstream/millstreamlaw10.ThreadKeeps", spec := "threadKeeps", apart := false, narrowed := true }
def ThreadKeepsUptoSaid : Prop := threadKeepsUptoRow.holds Try.pinned (OpenSpec.upto threadKeepsSpec)

/-- 'millstreamlaw10.ThreadLater', WHERE WHAT IT READS IS OF BULK AT MOST 1048576: true; the input reads as it did. -/
def threadLaterUptoRow : OpenClaim := { program := "ytnpohdnijgkkdaa", sum := "5afd0f258106369983da4db244b641b7c8e012750a1e80078f402bfd36ee7a87", func := "millstream/millstreamlaw10.ThreadLater", spec := "threadLater", apart := false, narrowed := true }
def ThreadLaterUptoSaid : Prop := threadLaterUptoRow.holds Try.pinned (OpenSpec.upto threadLaterSpec)

/-- 'millstreamlaw10.ThreadSame', WHERE WHAT IT READS IS OF BULK AT MOST 1048576: true; the input reads as it did. -/
def threadSameUptoRow : OpenClaim := { program := "ytnpohdnijgkkdaa", sum := "5afd0f258106369983da4db244b641b7c8e012750a1e80078f402bfd36ee7a87", func := "millstream/millstreamlaw10.ThreadSame", spec := "threadSame", apart := false, narrowed := true }
def ThreadSameUptoSaid : Prop := threadSameUptoRow.holds Try.pinned (OpenSpec.upto threadSameSpec)

end Rows
end Go.Proofs.Ytnpohdnijgkkdaa
