/-
  No cell of these rows narrows 'for every input' (looked for: loops, veiled, ifaces, maps, wideKeys, modest, calm, conditions, laid).
  DERIVED. THE GIVEN ROWS OF THIS SEAT. 6 by the template 'for every input the law returns true; each argument reads behind the call as it read before'; 0 by the template 'total and deterministic' (their statements: YtahflgbdcnipnaaTotals.lean).
  GIVEN WITH THE SEED: the statements are not yours to turn. If you find one false, say at which input.
  Laid BY PROGRAM, IN A SANDBOX (cutbox-rows.mjs): the forced cells as the released guide's own fill.sh prints them over the translation 560a9ef23a282ec1… (all of the seat's roots in one cut). By AI agents, Wed Nov 11 2026. No macro, syntax, notation, axiom, sorry.
-/
import Derived.Test.YtahflgbdcnipnaaChecked
import GoSem.Claim
import GoSem.ClaimJoined
import GoSem.ClaimMapViews
import Derived.JoinedTies
import Derived.KernelRfl
namespace Go.Proofs.Ytahflgbdcnipnaa
/- THE CELL 'sum', in the pinned program and in every row, IS THE sha256 OF THE DUMP (.gsa) THAT YtahflgbdcnipnaaProg.lean LOADS. Nothing in Lean hashes anything: it is a label: what it is worth is what the hold of that sum in a sandbox is worth. -/
noncomputable def Try.pinned : Pinned := { name := "ytahflgbdcnipnaa", sum := "560a9ef23a282ec129792d9f1ac5ca6eab168e2aa283b20ef5a58570fc682143", checked := Try.checked }
namespace Rows
def none {H : Type} : Left H := { results := [], args := [] }

/-- 'millstreamlaw02.BatchJoins': WHATEVER THE INPUT: true; the input reads as it did. -/
def batchJoinsSpec : ChangeSpec := { name := "batchJoins", fn := fun _ => fun
  | [d1, d2, d3, d4] => { results := [.lit (.bool true)], args := [d1, d2, d3, d4] }
  | _ => none }
def batchJoinsRow : OpenClaim := { program := "ytahflgbdcnipnaa", sum := "560a9ef23a282ec129792d9f1ac5ca6eab168e2aa283b20ef5a58570fc682143", func := "millstream/millstreamlaw02.BatchJoins", spec := "batchJoins", unfollowed := true, recurses := true, apart := false }
def BatchJoinsSaid : Prop := batchJoinsRow.holds Try.pinned (OpenSpec.ofChange batchJoinsSpec)

/-- ITS FALSE NEIGHBOUR: 'it returns false'. Refute it at one input. -/
def batchJoinsWrong : ChangeSpec := { name := "batchJoins", fn := fun _ => fun
  | [d1, d2, d3, d4] => { results := [.lit (.bool false)], args := [d1, d2, d3, d4] }
  | _ => none }
def BatchJoinsWrongFalsely : Prop := batchJoinsRow.holds Try.pinned (OpenSpec.ofChange batchJoinsWrong)

/-- 'millstreamlaw02.BatchFolds': WHATEVER THE INPUT: true; the input reads as it did. -/
def batchFoldsSpec : ChangeSpec := { name := "batchFolds", fn := fun _ => fun
  | [d1, d2, d3, d4, d5] => { results := [.lit (.bool true)], args := [d1, d2, d3, d4, d5] }
  | _ => none }
def batchFoldsRow : OpenClaim := { program := "ytahflgbdcnipnaa", sum := "560a9ef23a282ec129792d9f1ac5ca6eab168e2aa283b20ef5a58570fc682143", func := "millstream/millstreamlaw02.BatchFolds", spec := "batchFolds", unfollowed := true, recurses := true, apart := false }
def BatchFoldsSaid : Prop := batchFoldsRow.holds Try.pinned (OpenSpec.ofChange batchFoldsSpec)

/-- ITS FALSE NEIGHBOUR: 'it returns false'. Refute it at one input. -/
def batchFoldsWrong : ChangeSpec := { name := "batchFolds", fn := fun _ => fun
  | [d1, d2, d3, d4, d5] => { results := [.lit (.bool false)], args := [d1, d2, d3, d4, d5] }
  | _ => none }
def BatchFoldsWrongFalsely : Prop := batchFoldsRow.holds Try.pinned (OpenSpec.ofChange batchFoldsWrong)

/-- 'millstreamlaw02.BatchUpto': WHATEVER THE INPUT: true; the input reads as it did. -/
def batchUptoSpec : ChangeSpec := { name := "batchUpto", fn := fun _ => fun
  | [d1, d2, d3, d4, d5] => { results := [.lit (.bool true)], args := [d1, d2, d3, d4, d5] }
  | _ => none }
def batchUptoRow : OpenClaim := { program := "ytahflgbdcnipnaa", sum := "560a9ef23a282ec129792d9f1ac5ca6eab168e2aa283b20ef5a58570fc682143", func := "millstream/millstreamlaw02.BatchUpto", spec := "batchUpto", unfollowed := true, recurses := true, apart := false }
def BatchUptoSaid : Prop := batchUptoRow.holds Try.pinned (OpenSpec.ofChange batchUptoSpec)

/-- ITS FALSE NEIGHBOUR: 'it returns false'. Refute it at one input. -/
def batchUptoWrong : ChangeSpec := { name := "batchUpto", fn := fun _ => fun
  | [d1, d2, d3, d4, d5] => { results := [.lit (.bool false)], args := [d1, d2, d3, d4, d5] }
  | _ => none }
def BatchUptoWrongFalsely : Prop := batchUptoRow.holds Try.pinned (OpenSpec.ofChange batchUptoWrong)

/-- 'millstreamlaw02.BatchBounds': WHATEVER THE INPUT: true; the input reads as it did. -/
def batchBoundsSpec : ChangeSpec := { name := "batchBounds", fn := fun _ => fun
  | [d1, d2, d3, d4] => { results := [.lit (.bool true)], args := [d1, d2, d3, d4] }
  | _ => none }
def batchBoundsRow : OpenClaim := { program := "ytahflgbdcnipnaa", sum := "560a9ef23a282ec129792d9f1ac5ca6eab168e2aa283b20ef5a58570fc682143", func := "millstream/millstreamlaw02.BatchBounds", spec := "batchBounds", unfollowed := true, recurses := true, apart := false }
def BatchBoundsSaid : Prop := batchBoundsRow.holds Try.pinned (OpenSpec.ofChange batchBoundsSpec)

/-- ITS FALSE NEIGHBOUR: 'it returns false'. Refute it at one input. -/
def batchBoundsWrong : ChangeSpec := { name := "batchBounds", fn := fun _ => fun
  | [d1, d2, d3, d4] => { results := [.lit (.bool false)], args := [d1, d2, d3, d4] }
  | _ => none }
def BatchBoundsWrongFalsely : Prop := batchBoundsRow.holds Try.pinned (OpenSpec.ofChange batchBoundsWrong)

/-- 'millstreamlaw02.BatchOrder': WHATEVER THE INPUT: true; the input reads as it did. -/
def batchOrderSpec : ChangeSpec := { name := "batchOrder", fn := fun _ => fun
  | [d1, d2, d3] => { results := [.lit (.bool true)], args := [d1, d2, d3] }
  | _ => none }
def batchOrderRow : OpenClaim := { program := "ytahflgbdcnipnaa", sum := "560a9ef23a282ec129792d9f1ac5ca6eab168e2aa283b20ef5a58570fc682143", func := "millstream/millstreamlaw02.BatchOrder", spec := "batchOrder", unfollowed := true, recurses := true, apart := false }
def BatchOrderSaid : Prop := batchOrderRow.holds Try.pinned (OpenSpec.ofChange batchOrderSpec)

/-- ITS FALSE NEIGHBOUR: 'it returns false'. Refute it at one input. -/
def batchOrderWrong : ChangeSpec := { name := "batchOrder", fn := fun _ => fun
  | [d1, d2, d3] => { results := [.lit (.bool false)], args := [d1, d2, d3] }
  | _ => none }
def BatchOrderWrongFalsely : Prop := batchOrderRow.holds Try.pinned (OpenSpec.ofChange batchOrderWrong)

/-- 'millstreamlaw02.BatchMeets': WHATEVER THE INPUT: true; the input reads as it did. -/
def batchMeetsSpec : ChangeSpec := { name := "batchMeets", fn := fun _ => fun
  | [d1, d2, d3] => { results := [.lit (.bool true)], args := [d1, d2, d3] }
  | _ => none }
def batchMeetsRow : OpenClaim := { program := "ytahflgbdcnipnaa", sum := "560a9ef23a282ec129792d9f1ac5ca6eab168e2aa283b20ef5a58570fc682143", func := "millstream/millstreamlaw02.BatchMeets", spec := "batchMeets", unfollowed := true, recurses := true, apart := false }
def BatchMeetsSaid : Prop := batchMeetsRow.holds Try.pinned (OpenSpec.ofChange batchMeetsSpec)

/-- ITS FALSE NEIGHBOUR: 'it returns false'. Refute it at one input. -/
def batchMeetsWrong : ChangeSpec := { name := "batchMeets", fn := fun _ => fun
  | [d1, d2, d3] => { results := [.lit (.bool false)], args := [d1, d2, d3] }
  | _ => none }
def BatchMeetsWrongFalsely : Prop := batchMeetsRow.holds Try.pinned (OpenSpec.ofChange batchMeetsWrong)

/- THE SECOND FORM. 'bulk': how many values and letters a reading holds, each counted each time it is reached (what is shared counts as often as it is met; a slice's spare places count too). A statement '..UptoSaid' is the law's where the arguments, and the package variables that the reading takes, are together of bulk at most 1048576: NARROWER than '..Said'. Prove '..Said' where nothing that the law and all that it calls make is longer than what came in: it says more and counts as full. Else prove '..UptoSaid'. A law counts once. -/
mutual
def uptoBulk {H : Type} : DataW H → Nat
  | .lit (.string bytes) => bytes.length + 1
  | .lit _ => 1
  | .nil => 1
  | .ptr d => uptoBulk d + 1
  | .slice elems spare => uptoBulkAll elems + uptoBulkAll spare + 1
  | .agg parts => uptoBulkAll parts + 1
  | .iface _ d => uptoBulk d + 1
  | .map entries => uptoBulkEntries entries + 1
  | .held _ => 1
def uptoBulkAll {H : Type} : List (DataW H) → Nat
  | [] => 0
  | d :: r => uptoBulk d + uptoBulkAll r
def uptoBulkEntries {H : Type} : List (Lit × DataW H) → Nat
  | [] => 0
  | x :: r => uptoBulkEntry x + uptoBulkEntries r
def uptoBulkEntry {H : Type} : Lit × DataW H → Nat
  | (.string bytes, d) => bytes.length + uptoBulk d + 1
  | (_, d) => uptoBulk d + 1
 end
def uptoSmall : (H : Type) → List (DataW H) → Bool := fun _ ds => decide (uptoBulkAll ds ≤ 1048576)
def OpenSpec.upto (s : _root_.Go.ChangeSpec) : _root_.Go.OpenSpec := { _root_.Go.OpenSpec.ofChange s with cond := some uptoSmall }

/-- 'millstreamlaw02.BatchJoins', WHERE WHAT IT READS IS OF BULK AT MOST 1048576: true; the input reads as it did. -/
def batchJoinsUptoRow : OpenClaim := { program := "ytahflgbdcnipnaa", sum := "560a9ef23a282ec129792d9f1ac5ca6eab168e2aa283b20ef5a58570fc682143", func := "millstream/millstreamlaw02.BatchJoins", spec := "batchJoins", unfollowed := true, recurses := true, apart := false, narrowed := true }
def BatchJoinsUptoSaid : Prop := batchJoinsUptoRow.holds Try.pinned (OpenSpec.upto batchJoinsSpec)

/-- 'millstreamlaw02.BatchFolds', WHERE WHAT IT READS IS OF BULK AT MOST 1048576: true; the input reads as it did. -/
def batchFoldsUptoRow : OpenClaim := { program := "ytahflgbdcnipnaa", sum := "560a9ef23a282ec129792d9f1ac5ca6eab168e2aa283b20ef5a58570fc682143", func := "millstream/millstreamlaw02.BatchFolds", spec := "batchFolds", unfollowed := true, recurses := true, apart := false, narrowed := true }
def BatchFoldsUptoSaid : Prop := batchFoldsUptoRow.holds Try.pinned (OpenSpec.upto batchFoldsSpec)

/-- 'millstreamlaw02.BatchUpto', WHERE WHAT IT READS IS OF BULK AT MOST 1048576: true; the input reads as it did. -/
def batchUptoUptoRow : OpenClaim := { program := "ytahflgbdcnipnaa", sum := "560a9ef23a282ec129792d9f1ac5ca6eab168e2aa283b20ef5a58570fc682143", func := "millstream/millstreamlaw02.BatchUpto", spec := "batchUpto", unfollowed := true, recurses := true, apart := false, narrowed := true }
def BatchUptoUptoSaid : Prop := batchUptoUptoRow.holds Try.pinned (OpenSpec.upto batchUptoSpec)

/-- 'millstreamlaw02.BatchBounds', WHERE WHAT IT READS IS OF BULK AT MOST 1048576: true; the input reads as it did. -/
def batchBoundsUptoRow : OpenClaim := { program := "ytahflgbdcnipnaa", sum := "560a9ef23a282ec129792d9f1ac5ca6eab168e2aa283b20ef5a58570fc682143", func := "millstream/millstreamlaw02.BatchBounds", spec := "batchBounds", unfollowed := true, recurses := true, apart := false, narrowed := true }
def BatchBoundsUptoSaid : Prop := batchBoundsUptoRow.holds Try.pinned (OpenSpec.upto batchBoundsSpec)

/-- 'millstreamlaw02.BatchOrder', WHERE WHAT IT READS IS OF BULK AT MOST 1048576: true; the input reads as it did. -/
def batchOrderUptoRow : OpenClaim := { program := "ytahflgbdcnipnaa", sum := "560a9ef23a282ec129792d9f1ac5ca6eab168e2aa283b20ef5a58570fc682143", func := "millstream/millstreamlaw02.BatchOrder", spec := "batchOrder", unfollowed := true, recurses := true, apart := false, narrowed := true }
def BatchOrderUptoSaid : Prop := batchOrderUptoRow.holds Try.pinned (OpenSpec.upto batchOrderSpec)

/-- 'millstreamlaw02.BatchMeets', WHERE WHAT IT READS IS OF BULK AT MOST 1048576: true; the input reads as it did. -/
def batchMeetsUptoRow : OpenClaim := { program := "ytahflgbdcnipnaa", sum := "560a9ef23a282ec129792d9f1ac5ca6eab168e2aa283b20ef5a58570fc682143", func := "millstream/millstreamlaw02.BatchMeets", spec := "batchMeets", unfollowed := true, recurses := true, apart := false, narrowed := true }
def BatchMeetsUptoSaid : Prop := batchMeetsUptoRow.holds Try.pinned (OpenSpec.upto batchMeetsSpec)

end Rows
end Go.Proofs.Ytahflgbdcnipnaa
