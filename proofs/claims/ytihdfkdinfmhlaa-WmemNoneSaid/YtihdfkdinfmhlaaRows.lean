/-
  No cell of these rows narrows 'for every input' (looked for: loops, veiled, ifaces, maps, wideKeys, modest, calm, conditions, laid).
  DERIVED. THE GIVEN ROWS OF THIS SEAT. 6 by the template 'for every input the law returns true; each argument reads behind the call as it read before'; 0 by the template 'total and deterministic' (their statements: YtihdfkdinfmhlaaTotals.lean).
  GIVEN WITH THE SEED: the statements are not yours to turn. If you find one false, say at which input.
  Laid BY PROGRAM, IN A SANDBOX (cutbox-rows.mjs): the forced cells as the released guide's own fill.sh prints them over the translation a87ed933fd6733bf… (all of the seat's roots in one cut). By AI agents, Wed Nov 11 2026. No macro, syntax, notation, axiom, sorry.
-/
import Derived.Test.YtihdfkdinfmhlaaChecked
import GoSem.Claim
import GoSem.ClaimJoined
import GoSem.ClaimMapViews
import Derived.JoinedTies
import Derived.KernelRfl
namespace Go.Proofs.Ytihdfkdinfmhlaa
/- THE CELL 'sum', in the pinned program and in every row, IS THE sha256 OF THE DUMP (.gsa) THAT YtihdfkdinfmhlaaProg.lean LOADS. Nothing in Lean hashes anything: it is a label: what it is worth is what the hold of that sum in a sandbox is worth. -/
noncomputable def Try.pinned : Pinned := { name := "ytihdfkdinfmhlaa", sum := "a87ed933fd6733bf355fefc69f7751b4d2137453ab7b627a0c1b17b0ae0e5e96", checked := Try.checked }
namespace Rows
def none {H : Type} : Left H := { results := [], args := [] }

/-- 'millstreamlaw03.WmemWords': WHATEVER THE INPUT: true; the input reads as it did. -/
def wmemWordsSpec : ChangeSpec := { name := "wmemWords", fn := fun _ => fun
  | [d1, d2, d3, d4] => { results := [.lit (.bool true)], args := [d1, d2, d3, d4] }
  | _ => none }
def wmemWordsRow : OpenClaim := { program := "ytihdfkdinfmhlaa", sum := "a87ed933fd6733bf355fefc69f7751b4d2137453ab7b627a0c1b17b0ae0e5e96", func := "millstream/millstreamlaw03.WmemWords", spec := "wmemWords", unfollowed := true, recurses := true, apart := false }
def WmemWordsSaid : Prop := wmemWordsRow.holds Try.pinned (OpenSpec.ofChange wmemWordsSpec)

/-- ITS FALSE NEIGHBOUR: 'it returns false'. Refute it at one input. -/
def wmemWordsWrong : ChangeSpec := { name := "wmemWords", fn := fun _ => fun
  | [d1, d2, d3, d4] => { results := [.lit (.bool false)], args := [d1, d2, d3, d4] }
  | _ => none }
def WmemWordsWrongFalsely : Prop := wmemWordsRow.holds Try.pinned (OpenSpec.ofChange wmemWordsWrong)

/-- 'millstreamlaw03.WmemBoxes': WHATEVER THE INPUT: true; the input reads as it did. -/
def wmemBoxesSpec : ChangeSpec := { name := "wmemBoxes", fn := fun _ => fun
  | [d1, d2, d3, d4, d5] => { results := [.lit (.bool true)], args := [d1, d2, d3, d4, d5] }
  | _ => none }
def wmemBoxesRow : OpenClaim := { program := "ytihdfkdinfmhlaa", sum := "a87ed933fd6733bf355fefc69f7751b4d2137453ab7b627a0c1b17b0ae0e5e96", func := "millstream/millstreamlaw03.WmemBoxes", spec := "wmemBoxes", unfollowed := true, recurses := true, apart := false }
def WmemBoxesSaid : Prop := wmemBoxesRow.holds Try.pinned (OpenSpec.ofChange wmemBoxesSpec)

/-- ITS FALSE NEIGHBOUR: 'it returns false'. Refute it at one input. -/
def wmemBoxesWrong : ChangeSpec := { name := "wmemBoxes", fn := fun _ => fun
  | [d1, d2, d3, d4, d5] => { results := [.lit (.bool false)], args := [d1, d2, d3, d4, d5] }
  | _ => none }
def WmemBoxesWrongFalsely : Prop := wmemBoxesRow.holds Try.pinned (OpenSpec.ofChange wmemBoxesWrong)

/-- 'millstreamlaw03.WmemOther': WHATEVER THE INPUT: true; the input reads as it did. -/
def wmemOtherSpec : ChangeSpec := { name := "wmemOther", fn := fun _ => fun
  | [d1, d2, d3, d4, d5] => { results := [.lit (.bool true)], args := [d1, d2, d3, d4, d5] }
  | _ => none }
def wmemOtherRow : OpenClaim := { program := "ytihdfkdinfmhlaa", sum := "a87ed933fd6733bf355fefc69f7751b4d2137453ab7b627a0c1b17b0ae0e5e96", func := "millstream/millstreamlaw03.WmemOther", spec := "wmemOther", unfollowed := true, recurses := true, apart := false }
def WmemOtherSaid : Prop := wmemOtherRow.holds Try.pinned (OpenSpec.ofChange wmemOtherSpec)

/-- ITS FALSE NEIGHBOUR: 'it returns false'. Refute it at one input. -/
def wmemOtherWrong : ChangeSpec := { name := "wmemOther", fn := fun _ => fun
  | [d1, d2, d3, d4, d5] => { results := [.lit (.bool false)], args := [d1, d2, d3, d4, d5] }
  | _ => none }
def WmemOtherWrongFalsely : Prop := wmemOtherRow.holds Try.pinned (OpenSpec.ofChange wmemOtherWrong)

/-- 'millstreamlaw03.WmemCas': WHATEVER THE INPUT: true; the input reads as it did. -/
def wmemCasSpec : ChangeSpec := { name := "wmemCas", fn := fun _ => fun
  | [d1, d2, d3, d4, d5] => { results := [.lit (.bool true)], args := [d1, d2, d3, d4, d5] }
  | _ => none }
def wmemCasRow : OpenClaim := { program := "ytihdfkdinfmhlaa", sum := "a87ed933fd6733bf355fefc69f7751b4d2137453ab7b627a0c1b17b0ae0e5e96", func := "millstream/millstreamlaw03.WmemCas", spec := "wmemCas", unfollowed := true, recurses := true, apart := false }
def WmemCasSaid : Prop := wmemCasRow.holds Try.pinned (OpenSpec.ofChange wmemCasSpec)

/-- ITS FALSE NEIGHBOUR: 'it returns false'. Refute it at one input. -/
def wmemCasWrong : ChangeSpec := { name := "wmemCas", fn := fun _ => fun
  | [d1, d2, d3, d4, d5] => { results := [.lit (.bool false)], args := [d1, d2, d3, d4, d5] }
  | _ => none }
def WmemCasWrongFalsely : Prop := wmemCasRow.holds Try.pinned (OpenSpec.ofChange wmemCasWrong)

/-- 'millstreamlaw03.WmemNone': WHATEVER THE INPUT: true; the input reads as it did. -/
def wmemNoneSpec : ChangeSpec := { name := "wmemNone", fn := fun _ => fun
  | [d1, d2, d3, d4] => { results := [.lit (.bool true)], args := [d1, d2, d3, d4] }
  | _ => none }
def wmemNoneRow : OpenClaim := { program := "ytihdfkdinfmhlaa", sum := "a87ed933fd6733bf355fefc69f7751b4d2137453ab7b627a0c1b17b0ae0e5e96", func := "millstream/millstreamlaw03.WmemNone", spec := "wmemNone", unfollowed := true, recurses := true, apart := false }
def WmemNoneSaid : Prop := wmemNoneRow.holds Try.pinned (OpenSpec.ofChange wmemNoneSpec)

/-- ITS FALSE NEIGHBOUR: 'it returns false'. Refute it at one input. -/
def wmemNoneWrong : ChangeSpec := { name := "wmemNone", fn := fun _ => fun
  | [d1, d2, d3, d4] => { results := [.lit (.bool false)], args := [d1, d2, d3, d4] }
  | _ => none }
def WmemNoneWrongFalsely : Prop := wmemNoneRow.holds Try.pinned (OpenSpec.ofChange wmemNoneWrong)

/-- 'millstreamlaw03.WmemSwaps': WHATEVER THE INPUT: true; the input reads as it did. -/
def wmemSwapsSpec : ChangeSpec := { name := "wmemSwaps", fn := fun _ => fun
  | [d1, d2, d3, d4] => { results := [.lit (.bool true)], args := [d1, d2, d3, d4] }
  | _ => none }
def wmemSwapsRow : OpenClaim := { program := "ytihdfkdinfmhlaa", sum := "a87ed933fd6733bf355fefc69f7751b4d2137453ab7b627a0c1b17b0ae0e5e96", func := "millstream/millstreamlaw03.WmemSwaps", spec := "wmemSwaps", unfollowed := true, recurses := true, apart := false }
def WmemSwapsSaid : Prop := wmemSwapsRow.holds Try.pinned (OpenSpec.ofChange wmemSwapsSpec)

/-- ITS FALSE NEIGHBOUR: 'it returns false'. Refute it at one input. -/
def wmemSwapsWrong : ChangeSpec := { name := "wmemSwaps", fn := fun _ => fun
  | [d1, d2, d3, d4] => { results := [.lit (.bool false)], args := [d1, d2, d3, d4] }
  | _ => none }
def WmemSwapsWrongFalsely : Prop := wmemSwapsRow.holds Try.pinned (OpenSpec.ofChange wmemSwapsWrong)

/- THE SECOND FORM. 'bulk': how many values and letters a reading holds, each counted each time it is reached (what is shared counts as often as it is met; a slice's spare places count too). A statement '..UptoSaid' is the law's where the arguments, and the package variables that the reading takes, are together of bulk at most 1048576: NARROWER than '..Said'. Prove '..Said' where nothing that the law and all that it calls make is longer than what came in: it says more and counts as full. Else prove '..UptoSaid'. A law counts once. -/
mutual
def uptoBulk {H : Type} : DataW H → Nat
  | .lit (.string bytes) => bytes.length + 1
  | .lit _ => 1
  | .nil => 1
  | .ptr d => uptoBulk d + 1
  | .slice elems spare => uptoBulkAll elems + uptoBulkAll spare + 1
  | .agg parts => uptoBulkAll parts + 1
  | .iface _ d => uptoBulk d + 1
  | .map entries => uptoBulkEntries entries + 1
  | .held _ => 1
def uptoBulkAll {H : Type} : List (DataW H) → Nat
  | [] => 0
  | d :: r => uptoBulk d + uptoBulkAll r
def uptoBulkEntries {H : Type} : List (Lit × DataW H) → Nat
  | [] => 0
  | x :: r => uptoBulkEntry x + uptoBulkEntries r
def uptoBulkEntry {H : Type} : Lit × DataW H → Nat
  | (.string bytes, d) => bytes.length + uptoBulk d + 1
  | (_, d) => uptoBulk d + 1
 end
def uptoSmall : (H : Type) → List (DataW H) → Bool := fun _ ds => decide (uptoBulkAll ds ≤ 1048576)
def OpenSpec.upto (s : _root_.Go.ChangeSpec) : _root_.Go.OpenSpec := { _root_.Go.OpenSpec.ofChange s with cond := some uptoSmall }

/-- 'millstreamlaw03.WmemWords', WHERE WHAT IT READS IS OF BULK AT MOST 1048576: true; the input reads as it did. -/
def wmemWordsUptoRow : OpenClaim := { program := "ytihdfkdinfmhlaa", sum := "a87ed933fd6733bf355fefc69f7751b4d2137453ab7b627a0c1b17b0ae0e5e96", func := "millstream/millstreamlaw03.WmemWords", spec := "wmemWords", unfollowed := true, recurses := true, apart := false, narrowed := true }
def WmemWordsUptoSaid : Prop := wmemWordsUptoRow.holds Try.pinned (OpenSpec.upto wmemWordsSpec)

/-- 'millstreamlaw03.WmemBoxes', WHERE WHAT IT READS IS OF BULK AT MOST 1048576: true; the input reads as it did. -/
def wmemBoxesUptoRow : OpenClaim := { program := "ytihdfkdinfmhlaa", sum := "a87ed933fd6733bf355fefc69f7751b4d2137453ab7b627a0c1b17b0ae0e5e96", func := "millstream/millstreamlaw03.WmemBoxes", spec := "wmemBoxes", unfollowed := true, recurses := true, apart := false, narrowed := true }
def WmemBoxesUptoSaid : Prop := wmemBoxesUptoRow.holds Try.pinned (OpenSpec.upto wmemBoxesSpec)

/-- 'millstreamlaw03.WmemOther', WHERE WHAT IT READS IS OF BULK AT MOST 1048576: true; the input reads as it did. -/
def wmemOtherUptoRow : OpenClaim := { program := "ytihdfkdinfmhlaa", sum := "a87ed933fd6733bf355fefc69f7751b4d2137453ab7b627a0c1b17b0ae0e5e96", func := "millstream/millstreamlaw03.WmemOther", spec := "wmemOther", unfollowed := true, recurses := true, apart := false, narrowed := true }
def WmemOtherUptoSaid : Prop := wmemOtherUptoRow.holds Try.pinned (OpenSpec.upto wmemOtherSpec)

/-- 'millstreamlaw03.WmemCas', WHERE WHAT IT READS IS OF BULK AT MOST 1048576: true; the input reads as it did. -/
def wmemCasUptoRow : OpenClaim := { program := "ytihdfkdinfmhlaa", sum := "a87ed933fd6733bf355fefc69f7751b4d2137453ab7b627a0c1b17b0ae0e5e96", func := "millstream/millstreamlaw03.WmemCas", spec := "wmemCas", unfollowed := true, recurses := true, apart := false, narrowed := true }
def WmemCasUptoSaid : Prop := wmemCasUptoRow.holds Try.pinned (OpenSpec.upto wmemCasSpec)

/-- 'millstreamlaw03.WmemNone', WHERE WHAT IT READS IS OF BULK AT MOST 1048576: true; the input reads as it did. -/
def wmemNoneUptoRow : OpenClaim := { program := "ytihdfkdinfmhlaa", sum := "a87ed933fd6733bf355fefc69f7751b4d2137453ab7b627a0c1b17b0ae0e5e96", func := "millstream/millstreamlaw03.WmemNone", spec := "wmemNone", unfollowed := true, recurses := true, apart := false, narrowed := true }
def WmemNoneUptoSaid : Prop := wmemNoneUptoRow.holds Try.pinned (OpenSpec.upto wmemNoneSpec)

/-- 'millstreamlaw03.WmemSwaps', WHERE WHAT IT READS IS OF BULK AT MOST 1048576: true; the input reads as it did. -/
def wmemSwapsUptoRow : OpenClaim := { program := "ytihdfkdinfmhlaa", sum := "a87ed933fd6733bf355fefc69f7751b4d2137453ab7b627a0c1b17b0ae0e5e96", func := "millstream/millstreamlaw03.WmemSwaps", spec := "wmemSwaps", unfollowed := true, recurses := true, apart := false, narrowed := true }
def WmemSwapsUptoSaid : Prop := wmemSwapsUptoRow.holds Try.pinned (OpenSpec.upto wmemSwapsSpec)

end Rows
end Go.Proofs.Ytihdfkdinfmhlaa
