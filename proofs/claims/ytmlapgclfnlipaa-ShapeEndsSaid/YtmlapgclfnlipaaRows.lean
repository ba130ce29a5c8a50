/-
  No cell of these rows narrows 'for every input' (looked for: loops, veiled, ifaces, maps, wideKeys, modest, calm, conditions, laid).
  DERIVED. THE GIVEN ROWS OF THIS SEAT. 6 by the template 'for every input the law returns true; each argument reads behind the call as it read before'; 0 by the template 'total and deterministic' (their statements: YtmlapgclfnlipaaTotals.lean).
  GIVEN WITH THE SEED: the statements are not yours to turn. If you find one false, say at which input.
  Laid BY PROGRAM, IN A SANDBOX (cutbox-rows.mjs): the forced cells as the released guide's own fill.sh prints them over the translation 18fd8a47aa61447e… (all of the seat's roots in one cut). By AI agents, Wed Nov 11 2026. No macro, syntax, notation, axiom, sorry.
-/
import Derived.Test.YtmlapgclfnlipaaChecked
import GoSem.Claim
import GoSem.ClaimJoined
import GoSem.ClaimMapViews
import Derived.JoinedTies
import Derived.KernelRfl
namespace Go.Proofs.Ytmlapgclfnlipaa
/- THE CELL 'sum', in the pinned program and in every row, IS THE sha256 OF THE DUMP (.gsa) THAT YtmlapgclfnlipaaProg.lean LOADS. Nothing in Lean hashes anything: it is a label: what it is worth is what the hold of that sum in a sandbox is worth. -/
noncomputable def Try.pinned : Pinned := { name := "ytmlapgclfnlipaa", sum := "18fd8a47aa61447e8c8074364342932fe67f56050773cc41d7e8d783daffb263", checked := Try.checked }
namespace Rows
def none {H : Type} : Left H := { results := [], args := [] }

/-- 'millstreamlaw07.ShapeTells': WHATEVER THE INPUT: true; the input reads as it did. -/
def shapeTellsSpec : ChangeSpec := { name := "shapeTells", fn := fun _ => fun
  | [d1, d2, d3, d4] => { results := [.lit (.bool true)], args := [d1, d2, d3, d4] }
  | _ => none }
def shapeTellsRow : OpenClaim := { program := "ytmlapgclfnlipaa", sum := "18fd8a47aa61447e8c8074364342932fe67f56050773cc41d7e8d783daffb263", func := "millstream/millstreamlaw07.ShapeTells", spec := "shapeTells", unfollowed := true, recurses := true, apart := false }
def ShapeTellsSaid : Prop := shapeTellsRow.holds Try.pinned (OpenSpec.ofChange shapeTellsSpec)

/-- ITS FALSE NEIGHBOUR: 'it returns false'. Refute it at one input. -/
def shapeTellsWrong : ChangeSpec := { name := "shapeTells", fn := fun _ => fun
  | [d1, d2, d3, d4] => { results := [.lit (.bool false)], args := [d1, d2, d3, d4] }
  | _ => none }
def ShapeTellsWrongFalsely : Prop := shapeTellsRow.holds Try.pinned (OpenSpec.ofChange shapeTellsWrong)

/-- 'millstreamlaw07.ShapeEnds': WHATEVER THE INPUT: true; the input reads as it did. -/
def shapeEndsSpec : ChangeSpec := { name := "shapeEnds", fn := fun _ => fun
  | [d1, d2] => { results := [.lit (.bool true)], args := [d1, d2] }
  | _ => none }
def shapeEndsRow : OpenClaim := { program := "ytmlapgclfnlipaa", sum := "18fd8a47aa61447e8c8074364342932fe67f56050773cc41d7e8d783daffb263", func := "millstream/millstreamlaw07.ShapeEnds", spec := "shapeEnds", unfollowed := true, recurses := true, apart := false }
def ShapeEndsSaid : Prop := shapeEndsRow.holds Try.pinned (OpenSpec.ofChange shapeEndsSpec)

/-- ITS FALSE NEIGHBOUR: 'it returns false'. Refute it at one input. -/
def shapeEndsWrong : ChangeSpec := { name := "shapeEnds", fn := fun _ => fun
  | [d1, d2] => { results := [.lit (.bool false)], args := [d1, d2] }
  | _ => none }
def ShapeEndsWrongFalsely : Prop := shapeEndsRow.holds Try.pinned (OpenSpec.ofChange shapeEndsWrong)

/-- 'millstreamlaw07.ShapeMeets': WHATEVER THE INPUT: true; the input reads as it did. -/
def shapeMeetsSpec : ChangeSpec := { name := "shapeMeets", fn := fun _ => fun
  | [d1, d2, d3] => { results := [.lit (.bool true)], args := [d1, d2, d3] }
  | _ => none }
def shapeMeetsRow : OpenClaim := { program := "ytmlapgclfnlipaa", sum := "18fd8a47aa61447e8c8074364342932fe67f56050773cc41d7e8d783daffb263", func := "millstream/millstreamlaw07.ShapeMeets", spec := "shapeMeets", unfollowed := true, recurses := true, apart := false }
def ShapeMeetsSaid : Prop := shapeMeetsRow.holds Try.pinned (OpenSpec.ofChange shapeMeetsSpec)

/-- ITS FALSE NEIGHBOUR: 'it returns false'. Refute it at one input. -/
def shapeMeetsWrong : ChangeSpec := { name := "shapeMeets", fn := fun _ => fun
  | [d1, d2, d3] => { results := [.lit (.bool false)], args := [d1, d2, d3] }
  | _ => none }
def ShapeMeetsWrongFalsely : Prop := shapeMeetsRow.holds Try.pinned (OpenSpec.ofChange shapeMeetsWrong)

/-- 'millstreamlaw07.ShapeKids': WHATEVER THE INPUT: true; the input reads as it did. -/
def shapeKidsSpec : ChangeSpec := { name := "shapeKids", fn := fun _ => fun
  | [d] => { results := [.lit (.bool true)], args := [d] }
  | _ => none }
def shapeKidsRow : OpenClaim := { program := "ytmlapgclfnlipaa", sum := "18fd8a47aa61447e8c8074364342932fe67f56050773cc41d7e8d783daffb263", func := "millstream/millstreamlaw07.ShapeKids", spec := "shapeKids", unfollowed := true, recurses := true, apart := false }
def ShapeKidsSaid : Prop := shapeKidsRow.holds Try.pinned (OpenSpec.ofChange shapeKidsSpec)

/-- ITS FALSE NEIGHBOUR: 'it returns false'. Refute it at one input. -/
def shapeKidsWrong : ChangeSpec := { name := "shapeKids", fn := fun _ => fun
  | [d] => { results := [.lit (.bool false)], args := [d] }
  | _ => none }
def ShapeKidsWrongFalsely : Prop := shapeKidsRow.holds Try.pinned (OpenSpec.ofChange shapeKidsWrong)

/-- 'millstreamlaw07.ShapeTurns': WHATEVER THE INPUT: true; the input reads as it did. -/
def shapeTurnsSpec : ChangeSpec := { name := "shapeTurns", fn := fun _ => fun
  | [d1, d2, d3] => { results := [.lit (.bool true)], args := [d1, d2, d3] }
  | _ => none }
def shapeTurnsRow : OpenClaim := { program := "ytmlapgclfnlipaa", sum := "18fd8a47aa61447e8c8074364342932fe67f56050773cc41d7e8d783daffb263", func := "millstream/millstreamlaw07.ShapeTurns", spec := "shapeTurns", unfollowed := true, recurses := true, apart := false }
def ShapeTurnsSaid : Prop := shapeTurnsRow.holds Try.pinned (OpenSpec.ofChange shapeTurnsSpec)

/-- ITS FALSE NEIGHBOUR: 'it returns false'. Refute it at one input. -/
def shapeTurnsWrong : ChangeSpec := { name := "shapeTurns", fn := fun _ => fun
  | [d1, d2, d3] => { results := [.lit (.bool false)], args := [d1, d2, d3] }
  | _ => none }
def ShapeTurnsWrongFalsely : Prop := shapeTurnsRow.holds Try.pinned (OpenSpec.ofChange shapeTurnsWrong)

/-- 'millstreamlaw07.ShapeLeaves': WHATEVER THE INPUT: true; the input reads as it did. -/
def shapeLeavesSpec : ChangeSpec := { name := "shapeLeaves", fn := fun _ => fun
  | [d] => { results := [.lit (.bool true)], args := [d] }
  | _ => none }
def shapeLeavesRow : OpenClaim := { program := "ytmlapgclfnlipaa", sum := "18fd8a47aa61447e8c8074364342932fe67f56050773cc41d7e8d783daffb263", func := "millstream/millstreamlaw07.ShapeLeaves", spec := "shapeLeaves", unfollowed := true, recurses := true, apart := false }
def ShapeLeavesSaid : Prop := shapeLeavesRow.holds Try.pinned (OpenSpec.ofChange shapeLeavesSpec)

/-- ITS FALSE NEIGHBOUR: 'it returns false'. Refute it at one input. -/
def shapeLeavesWrong : ChangeSpec := { name := "shapeLeaves", fn := fun _ => fun
  | [d] => { results := [.lit (.bool false)], args := [d] }
  | _ => none }
def ShapeLeavesWrongFalsely : Prop := shapeLeavesRow.holds Try.pinned (OpenSpec.ofChange shapeLeavesWrong)

/- THE SECOND FORM. 'bulk': how many values and letters a reading holds, each counted each time it is reached (what is shared counts as often as it is met; a slice's spare places count too). A statement '..UptoSaid' is the law's where the arguments, and the package variables that the reading takes, are together of bulk at most 1048576: NARROWER than '..Said'. Prove '..Said' where nothing that the law and all that it calls make is longer than what came in: it says more and counts as full. Else prove '..UptoSaid'. A law counts once. -/
mutual
def uptoBulk {H : Type} : DataW H → Nat
  | .lit (.string bytes) => bytes.length + 1
  | .lit _ => 1
  | .nil => 1
  | .ptr d => uptoBulk d + 1
  | .slice elems spare => uptoBulkAll elems + uptoBulkAll spare + 1
  | .agg parts => uptoBulkAll parts + 1
  | .iface _ d => uptoBulk d + 1
  | .map entries => uptoBulkEntries entries + 1
  | .held _ => 1
def uptoBulkAll {H : Type} : List (DataW H) → Nat
  | [] => 0
  | d :: r => uptoBulk d + uptoBulkAll r
def uptoBulkEntries {H : Type} : List (Lit × DataW H) → Nat
  | [] => 0
  | x :: r => uptoBulkEntry x + uptoBulkEntries r
def uptoBulkEntry {H : Type} : Lit × DataW H → Nat
  | (.string bytes, d) => bytes.length + uptoBulk d + 1
  | (_, d) => uptoBulk d + 1
 end
def uptoSmall : (H : Type) → List (DataW H) → Bool := fun _ ds => decide (uptoBulkAll ds ≤ 1048576)
def OpenSpec.upto (s : _root_.Go.ChangeSpec) : _root_.Go.OpenSpec := { _root_.Go.OpenSpec.ofChange s with cond := some uptoSmall }

/-- 'millstreamlaw07.ShapeTells', WHERE WHAT IT READS IS OF BULK AT MOST 1048576: true; the input reads as it did. -/
def shapeTellsUptoRow : OpenClaim := { program := "ytmlapgclfnlipaa", sum := "18fd8a47aa61447e8c8074364342932fe67f56050773cc41d7e8d783daffb263", func := "millstream/millstreamlaw07.ShapeTells", spec := "shapeTells", unfollowed := true, recurses := true, apart := false, narrowed := true }
def ShapeTellsUptoSaid : Prop := shapeTellsUptoRow.holds Try.pinned (OpenSpec.upto shapeTellsSpec)

/-- 'millstreamlaw07.ShapeEnds', WHERE WHAT IT READS IS OF BULK AT MOST 1048576: true; the input reads as it did. -/
def shapeEndsUptoRow : OpenClaim := { program := "ytmlapgclfnlipaa", sum := "18fd8a47aa61447e8c8074364342932fe67f56050773cc41d7e8d783daffb263", func := "millstream/millstreamlaw07.ShapeEnds", spec := "shapeEnds", unfollowed := true, recurses := true, apart := false, narrowed := true }
def ShapeEndsUptoSaid : Prop := shapeEndsUptoRow.holds Try.pinned (OpenSpec.upto shapeEndsSpec)

/-- 'millstreamlaw07.ShapeMeets', WHERE WHAT IT READS IS OF BULK AT MOST 1048576: true; the input reads as it did. -/
def shapeMeetsUptoRow : OpenClaim := { program := "ytmlapgclfnlipaa", sum := "18fd8a47aa61447e8c8074364342932fe67f56050773cc41d7e8d783daffb263", func := "millstream/millstreamlaw07.ShapeMeets", spec := "shapeMeets", unfollowed := true, recurses := true, apart := false, narrowed := true }
def ShapeMeetsUptoSaid : Prop := shapeMeetsUptoRow.holds Try.pinned (OpenSpec.upto shapeMeetsSpec)

/-- 'millstreamlaw07.ShapeKids', WHERE WHAT IT READS IS OF BULK AT MOST 1048576: true; the input reads as it did. -/
def shapeKidsUptoRow : OpenClaim := { program := "ytmlapgclfnlipaa", sum := "18fd8a47aa61447e8c8074364342932fe67f56050773cc41d7e8d783daffb263", func := "millstream/millstreamlaw07.ShapeKids", spec := "shapeKids", unfollowed := true, recurses := true, apart := false, narrowed := true }
def ShapeKidsUptoSaid : Prop := shapeKidsUptoRow.holds Try.pinned (OpenSpec.upto shapeKidsSpec)

/-- 'millstreamlaw07.ShapeTurns', WHERE WHAT IT READS IS OF BULK AT MOST 1048576: true; the input reads as it did. -/
def shapeTurnsUptoRow : OpenClaim := { program := "ytmlapgclfnlipaa", sum := "18fd8a47aa61447e8c8074364342932fe67f56050773cc41d7e8d783daffb263", func := "millstream/millstreamlaw07.ShapeTurns", spec := "shapeTurns", unfollowed := true, recurses := true, apart := false, narrowed := true }
def ShapeTurnsUptoSaid : Prop := shapeTurnsUptoRow.holds Try.pinned (OpenSpec.upto shapeTurnsSpec)

/-- 'millstreamlaw07.ShapeLeaves', WHERE WHAT IT READS IS OF BULK AT MOST 1048576: true; the input reads as it did. -/
def shapeLeavesUptoRow : OpenClaim := { program := "ytmlapgclfnlipaa", sum := "18fd8a47aa61447e8c8074364342932fe67f56050773cc41d7e8d783daffb263", func := "millstream/millstreamlaw07.ShapeLeaves", spec := "shapeLeaves", unfollowed := true, recurses := true, apart := false, narrowed := true }
def ShapeLeavesUptoSaid : Prop := shapeLeavesUptoRow.holds Try.pinned (OpenSpec.upto shapeLeavesSpec)

end Rows
end Go.Proofs.Ytmlapgclfnlipaa
