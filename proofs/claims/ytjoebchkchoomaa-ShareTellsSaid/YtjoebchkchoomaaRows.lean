/-
  No cell of these rows narrows 'for every input' (looked for: loops, veiled, ifaces, maps, wideKeys, modest, calm, conditions, laid).
  DERIVED. THE GIVEN ROWS OF THIS SEAT. 5 by the template 'for every input the law returns true; each argument reads behind the call as it read before'; 0 by the template 'total and deterministic' (their statements: YtjoebchkchoomaaTotals.lean).
  GIVEN WITH THE SEED: the statements are not yours to turn. If you find one false, say at which input.
  Laid BY PROGRAM, IN A SANDBOX (cutbox-rows.mjs): the forced cells as the released guide's own fill.sh prints them over the translation 18cdf4ef73d38702… (all of the seat's roots in one cut). By AI agents, Wed Nov 11 2026. No macro, syntax, notation, axiom, sorry.
-/
import Derived.Test.YtjoebchkchoomaaChecked
import GoSem.Claim
import GoSem.ClaimJoined
import GoSem.ClaimMapViews
import Derived.JoinedTies
import Derived.KernelRfl
namespace Go.Proofs.Ytjoebchkchoomaa
/- THE CELL 'sum', in the pinned program and in every row, IS THE sha256 OF THE DUMP (.gsa) THAT YtjoebchkchoomaaProg.lean LOADS. Nothing in Lean hashes anything: it is a label: what it is worth is what the hold of that sum in a sandbox is worth. -/
noncomputable def Try.pinned : Pinned := { name := "ytjoebchkchoomaa", sum := "18cdf4ef73d38702d9f8d74938ac522225fa4b8c11bdc271b10cfe421f9823df", checked := Try.checked }
namespace Rows
def none {H : Type} : Left H := { results := [], args := [] }

/-- 'millstreamlaw11.ShareSteps': WHATEVER THE INPUT: true; the input reads as it did. -/
def shareStepsSpec : ChangeSpec := { name := "shareSteps", fn := fun _ => fun
  | [d] => { results := [.lit (.bool true)], args := [d] }
  | _ => none }
def shareStepsRow : OpenClaim := { program := "ytjoebchkchoomaa", sum := "18cdf4ef73d38702d9f8d74938ac522225fa4b8c11bdc271b10cfe421f9823df", func := "millstream/millstreamlaw11.ShareSteps", spec := "shareSteps", unfollowed := true, recurses := true, apart := false }
def ShareStepsSaid : Prop := shareStepsRow.holds Try.pinned (OpenSpec.ofChange shareStepsSpec)

/-- ITS FALSE NEIGHBOUR: 'it returns false'. Refute it at one input. -/
def shareStepsWrong : ChangeSpec := { name := "shareSteps", fn := fun _ => fun
  | [d] => { results := [.lit (.bool false)], args := [d] }
  | _ => none }
def ShareStepsWrongFalsely : Prop := shareStepsRow.holds Try.pinned (OpenSpec.ofChange shareStepsWrong)

/-- 'millstreamlaw11.ShareOther': WHATEVER THE INPUT: true; the input reads as it did. -/
def shareOtherSpec : ChangeSpec := { name := "shareOther", fn := fun _ => fun
  | [d] => { results := [.lit (.bool true)], args := [d] }
  | _ => none }
def shareOtherRow : OpenClaim := { program := "ytjoebchkchoomaa", sum := "18cdf4ef73d38702d9f8d74938ac522225fa4b8c11bdc271b10cfe421f9823df", func := "millstream/millstreamlaw11.ShareOther", spec := "shareOther", unfollowed := true, recurses := true, apart := false }
def ShareOtherSaid : Prop := shareOtherRow.holds Try.pinned (OpenSpec.ofChange shareOtherSpec)

/-- ITS FALSE NEIGHBOUR: 'it returns false'. Refute it at one input. -/
def shareOtherWrong : ChangeSpec := { name := "shareOther", fn := fun _ => fun
  | [d] => { results := [.lit (.bool false)], args := [d] }
  | _ => none }
def ShareOtherWrongFalsely : Prop := shareOtherRow.holds Try.pinned (OpenSpec.ofChange shareOtherWrong)

/-- 'millstreamlaw11.ShareTells': WHATEVER THE INPUT: true; the input reads as it did. -/
def shareTellsSpec : ChangeSpec := { name := "shareTells", fn := fun _ => fun
  | [d] => { results := [.lit (.bool true)], args := [d] }
  | _ => none }
def shareTellsRow : OpenClaim := { program := "ytjoebchkchoomaa", sum := "18cdf4ef73d38702d9f8d74938ac522225fa4b8c11bdc271b10cfe421f9823df", func := "millstream/millstreamlaw11.ShareTells", spec := "shareTells", unfollowed := true, recurses := true, apart := false }
def ShareTellsSaid : Prop := shareTellsRow.holds Try.pinned (OpenSpec.ofChange shareTellsSpec)

/-- ITS FALSE NEIGHBOUR: 'it returns false'. Refute it at one input. -/
def shareTellsWrong : ChangeSpec := { name := "shareTells", fn := fun _ => fun
  | [d] => { results := [.lit (.bool false)], args := [d] }
  | _ => none }
def ShareTellsWrongFalsely : Prop := shareTellsRow.holds Try.pinned (OpenSpec.ofChange shareTellsWrong)

/-- 'millstreamlaw11.ShareWaits': WHATEVER THE INPUT: true; the input reads as it did. -/
def shareWaitsSpec : ChangeSpec := { name := "shareWaits", fn := fun _ => fun
  | [d1, d2] => { results := [.lit (.bool true)], args := [d1, d2] }
  | _ => none }
def shareWaitsRow : OpenClaim := { program := "ytjoebchkchoomaa", sum := "18cdf4ef73d38702d9f8d74938ac522225fa4b8c11bdc271b10cfe421f9823df", func := "millstream/millstreamlaw11.ShareWaits", spec := "shareWaits", unfollowed := true, recurses := true, apart := false }
def ShareWaitsSaid : Prop := shareWaitsRow.holds Try.pinned (OpenSpec.ofChange shareWaitsSpec)

/-- ITS FALSE NEIGHBOUR: 'it returns false'. Refute it at one input. -/
def shareWaitsWrong : ChangeSpec := { name := "shareWaits", fn := fun _ => fun
  | [d1, d2] => { results := [.lit (.bool false)], args := [d1, d2] }
  | _ => none }
def ShareWaitsWrongFalsely : Prop := shareWaitsRow.holds Try.pinned (OpenSpec.ofChange shareWaitsWrong)

/-- 'millstreamlaw11.ShareKeeps': WHATEVER THE INPUT: true; the input reads as it did. -/
def shareKeepsSpec : ChangeSpec := { name := "shareKeeps", fn := fun _ => fun
  | [d] => { results := [.lit (.bool true)], args := [d] }
  | _ => none }
def shareKeepsRow : OpenClaim := { program := "ytjoebchkchoomaa", sum := "18cdf4ef73d38702d9f8d74938ac522225fa4b8c11bdc271b10cfe421f9823df", func := "millstream/millstreamlaw11.ShareKeeps", spec := "shareKeeps", unfollowed := true, recurses := true, apart := false }
def ShareKeepsSaid : Prop := shareKeepsRow.holds Try.pinned (OpenSpec.ofChange shareKeepsSpec)

/-- ITS FALSE NEIGHBOUR: 'it returns false'. Refute it at one input. -/
def shareKeepsWrong : ChangeSpec := { name := "shareKeeps", fn := fun _ => fun
  | [d] => { results := [.lit (.bool false)], args := [d] }
  | _ => none }
def ShareKeepsWrongFalsely : Prop := shareKeepsRow.holds Try.pinned (OpenSpec.ofChange shareKeepsWrong)

/- THE SECOND FORM. 'bulk': how many values and letters a reading holds, each counted each time it is reached (what is shared counts as often as it is met; a slice's spare places count too). A statement '..UptoSaid' is the law's where the arguments, and the package variables that the reading takes, are together of bulk at most 1048576: NARROWER than '..Said'. Prove '..Said' where nothing that the law and all that it calls make is longer than what came in: it says more and counts as full. Else prove '..UptoSaid'. A law counts once. -/
mutual
def uptoBulk {H : Type} : DataW H → Nat
  | .lit (.string bytes) => bytes.length + 1
  | .lit _ => 1
  | .nil => 1
  | .ptr d => uptoBulk d + 1
  | .slice elems spare => uptoBulkAll elems + uptoBulkAll spare + 1
  | .agg parts => uptoBulkAll parts + 1
  | .iface _ d => uptoBulk d + 1
  | .map entries => uptoBulkEntries entries + 1
  | .held _ => 1
def uptoBulkAll {H : Type} : List (DataW H) → Nat
  | [] => 0
  | d :: r => uptoBulk d + uptoBulkAll r
def uptoBulkEntries {H : Type} : List (Lit × DataW H) → Nat
  | [] => 0
  | x :: r => uptoBulkEntry x + uptoBulkEntries r
def uptoBulkEntry {H : Type} : Lit × DataW H → Nat
  | (.string bytes, d) => bytes.length + uptoBulk d + 1
  | (_, d) => uptoBulk d + 1
 end
def uptoSmall : (H : Type) → List (DataW H) → Bool := fun _ ds => decide (uptoBulkAll ds ≤ 1048576)
def OpenSpec.upto (s : _root_.Go.ChangeSpec) : _root_.Go.OpenSpec := { _root_.Go.OpenSpec.ofChange s with cond := some uptoSmall }

/-- 'millstreamlaw11.ShareSteps', WHERE WHAT IT READS IS OF BULK AT MOST 1048576: true; the input reads as it did. -/
def shareStepsUptoRow : OpenClaim := { program := "ytjoebchkchoomaa", sum := "18cdf4ef73d38702d9f8d74938ac522225fa4b8c11bdc271b10cfe421f9823df", func := "millstream/millstreamlaw11.ShareSteps", spec := "shareSteps", unfollowed := true, recurses := true, apart := false, narrowed := true }
def ShareStepsUptoSaid : Prop := shareStepsUptoRow.holds Try.pinned (OpenSpec.upto shareStepsSpec)

/-- 'millstreamlaw11.ShareOther', WHERE WHAT IT READS IS OF BULK AT MOST 1048576: true; the input reads as it did. -/
def shareOtherUptoRow : OpenClaim := { program := "ytjoebchkchoomaa", sum := "18cdf4ef73d38702d9f8d74938ac522225fa4b8c11bdc271b10cfe421f9823df", func := "millstream/millstreamlaw11.ShareOther", spec := "shareOther", unfollowed := true, recurses := true, apart := false, narrowed := true }
def ShareOtherUptoSaid : Prop := shareOtherUptoRow.holds Try.pinned (OpenSpec.upto shareOtherSpec)

/-- 'millstreamlaw11.ShareTells', WHERE WHAT IT READS IS OF BULK AT MOST 1048576: true; the input reads as it did. -/
def shareTellsUptoRow : OpenClaim := { program := "ytjoebchkchoomaa", sum := "18cdf4ef73d38702d9f8d74938ac522225fa4b8c11bdc271b10cfe421f9823df", func := "millstream/millstreamlaw11.ShareTells", spec := "shareTells", unfollowed := true, recurses := true, apart := false, narrowed := true }
def ShareTellsUptoSaid : Prop := shareTellsUptoRow.holds Try.pinned (OpenSpec.upto shareTellsSpec)

/-- 'millstreamlaw11.ShareWaits', WHERE WHAT IT READS IS OF BULK AT MOST 1048576: true; the input reads as it did. -/
def shareWaitsUptoRow : OpenClaim := { program := "ytjoebchkchoomaa", sum := "18cdf4ef73d38702d9f8d74938ac522225fa4b8c11bdc271b10cfe421f9823df", func := "millstream/millstreamlaw11.ShareWaits", spec := "shareWaits", unfollowed := true, recurses := true, apart := false, narrowed := true }
def ShareWaitsUptoSaid : Prop := shareWaitsUptoRow.holds Try.pinned (OpenSpec.upto shareWaitsSpec)

/-- 'millstreamlaw11.ShareKeeps', WHERE WHAT IT READS IS OF BULK AT MOST 1048576: true; the input reads as it did. -/
def shareKeepsUptoRow : OpenClaim := { program := "ytjoebchkchoomaa", sum := "18cdf4ef73d38702d9f8d74938ac522225fa4b8c11bdc271b10cfe421f9823df", func := "millstream/millstreamlaw11.ShareKeeps", spec := "shareKeeps", unfollowed := true, recurses := true, apart := false, narrowed := true }
def ShareKeepsUptoSaid : Prop := shareKeepsUptoRow.holds Try.pinned (OpenSpec.upto shareKeepsSpec)

end Rows
end Go.Proofs.Ytjoebchkchoomaa
