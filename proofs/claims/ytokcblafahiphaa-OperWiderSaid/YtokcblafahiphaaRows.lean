/-
  No cell of these rows narrows 'for every input' (looked for: loops, veiled, ifaces, maps, wideKeys, modest, calm, conditions, laid).
  DERIVED. THE GIVEN ROWS OF THIS SEAT. 7 by the template 'for every input the law returns true; each argument reads behind the call as it read before'; 0 by the template 'total and deterministic' (their statements: YtokcblafahiphaaTotals.lean).
  GIVEN WITH THE SEED: the statements are not yours to turn. If you find one false, say at which input.
  Laid BY PROGRAM, IN A SANDBOX (cutbox-rows.mjs): the forced cells as the released guide's own fill.sh prints them over the translation 07d8acaae3e5d327… (all of the seat's roots in one cut). By AI agents, Wed Nov 11 2026. No macro, syntax, notation, axiom, sorry.
-/
import Derived.Test.YtokcblafahiphaaChecked
import GoSem.Claim
import GoSem.ClaimJoined
import GoSem.ClaimMapViews
import Derived.JoinedTies
import Derived.KernelRfl
namespace Go.Proofs.Ytokcblafahiphaa
/- THE CELL 'sum', in the pinned program and in every row, IS THE sha256 OF THE DUMP (.gsa) THAT YtokcblafahiphaaProg.lean LOADS. Nothing in Lean hashes anything: it is a label: what it is worth is what the hold of that sum in a sandbox is worth. -/
noncomputable def Try.pinned : Pinned := { name := "ytokcblafahiphaa", sum := "07d8acaae3e5d32779515531fa7c12cf57a5f9f11472b9c2a0db93fff6793183", checked := Try.checked }
namespace Rows
def none {H : Type} : Left H := { results := [], args := [] }

/-- 'millstreamlaw01.OperApplies': WHATEVER THE INPUT: true; the input reads as it did. -/
def operAppliesSpec : ChangeSpec := { name := "operApplies", fn := fun _ => fun
  | [d1, d2, d3, d4, d5] => { results := [.lit (.bool true)], args := [d1, d2, d3, d4, d5] }
  | _ => none }
def operAppliesRow : OpenClaim := { program := "ytokcblafahiphaa", sum := "07d8acaae3e5d32779515531fa7c12cf57a5f9f11472b9c2a0db93fff6793183", func := "millstream/millstreamlaw01.OperApplies", spec := "operApplies", apart := false }
def OperAppliesSaid : Prop := operAppliesRow.holds Try.pinned (OpenSpec.ofChange operAppliesSpec)

/-- ITS FALSE NEIGHBOUR: 'it returns false'. Refute it at one input. -/
def operAppliesWrong : ChangeSpec := { name := "operApplies", fn := fun _ => fun
  | [d1, d2, d3, d4, d5] => { results := [.lit (.bool false)], args := [d1, d2, d3, d4, d5] }
  | _ => none }
def OperAppliesWrongFalsely : Prop := operAppliesRow.holds Try.pinned (OpenSpec.ofChange operAppliesWrong)

/-- 'millstreamlaw01.OperBounds': WHATEVER THE INPUT: true; the input reads as it did. -/
def operBoundsSpec : ChangeSpec := { name := "operBounds", fn := fun _ => fun
  | [d1, d2, d3, d4, d5] => { results := [.lit (.bool true)], args := [d1, d2, d3, d4, d5] }
  | _ => none }
def operBoundsRow : OpenClaim := { program := "ytokcblafahiphaa", sum := "07d8acaae3e5d32779515531fa7c12cf57a5f9f11472b9c2a0db93fff6793183", func := "millstream/millstreamlaw01.OperBounds", spec := "operBounds", apart := false }
def OperBoundsSaid : Prop := operBoundsRow.holds Try.pinned (OpenSpec.ofChange operBoundsSpec)

/-- ITS FALSE NEIGHBOUR: 'it returns false'. Refute it at one input. -/
def operBoundsWrong : ChangeSpec := { name := "operBounds", fn := fun _ => fun
  | [d1, d2, d3, d4, d5] => { results := [.lit (.bool false)], args := [d1, d2, d3, d4, d5] }
  | _ => none }
def OperBoundsWrongFalsely : Prop := operBoundsRow.holds Try.pinned (OpenSpec.ofChange operBoundsWrong)

/-- 'millstreamlaw01.OperBack': WHATEVER THE INPUT: true; the input reads as it did. -/
def operBackSpec : ChangeSpec := { name := "operBack", fn := fun _ => fun
  | [d1, d2, d3, d4] => { results := [.lit (.bool true)], args := [d1, d2, d3, d4] }
  | _ => none }
def operBackRow : OpenClaim := { program := "ytokcblafahiphaa", sum := "07d8acaae3e5d32779515531fa7c12cf57a5f9f11472b9c2a0db93fff6793183", func := "millstream/millstreamlaw01.OperBack", spec := "operBack", apart := false }
def OperBackSaid : Prop := operBackRow.holds Try.pinned (OpenSpec.ofChange operBackSpec)

/-- ITS FALSE NEIGHBOUR: 'it returns false'. Refute it at one input. -/
def operBackWrong : ChangeSpec := { name := "operBack", fn := fun _ => fun
  | [d1, d2, d3, d4] => { results := [.lit (.bool false)], args := [d1, d2, d3, d4] }
  | _ => none }
def OperBackWrongFalsely : Prop := operBackRow.holds Try.pinned (OpenSpec.ofChange operBackWrong)

/-- 'millstreamlaw01.OperTwice': WHATEVER THE INPUT: true; the input reads as it did. -/
def operTwiceSpec : ChangeSpec := { name := "operTwice", fn := fun _ => fun
  | [d1, d2, d3, d4] => { results := [.lit (.bool true)], args := [d1, d2, d3, d4] }
  | _ => none }
def operTwiceRow : OpenClaim := { program := "ytokcblafahiphaa", sum := "07d8acaae3e5d32779515531fa7c12cf57a5f9f11472b9c2a0db93fff6793183", func := "millstream/millstreamlaw01.OperTwice", spec := "operTwice", apart := false }
def OperTwiceSaid : Prop := operTwiceRow.holds Try.pinned (OpenSpec.ofChange operTwiceSpec)

/-- ITS FALSE NEIGHBOUR: 'it returns false'. Refute it at one input. -/
def operTwiceWrong : ChangeSpec := { name := "operTwice", fn := fun _ => fun
  | [d1, d2, d3, d4] => { results := [.lit (.bool false)], args := [d1, d2, d3, d4] }
  | _ => none }
def OperTwiceWrongFalsely : Prop := operTwiceRow.holds Try.pinned (OpenSpec.ofChange operTwiceWrong)

/-- 'millstreamlaw01.OperOrder': WHATEVER THE INPUT: true; the input reads as it did. -/
def operOrderSpec : ChangeSpec := { name := "operOrder", fn := fun _ => fun
  | [d1, d2, d3, d4] => { results := [.lit (.bool true)], args := [d1, d2, d3, d4] }
  | _ => none }
def operOrderRow : OpenClaim := { program := "ytokcblafahiphaa", sum := "07d8acaae3e5d32779515531fa7c12cf57a5f9f11472b9c2a0db93fff6793183", func := "millstream/millstreamlaw01.OperOrder", spec := "operOrder", apart := false }
def OperOrderSaid : Prop := operOrderRow.holds Try.pinned (OpenSpec.ofChange operOrderSpec)

/-- ITS FALSE NEIGHBOUR: 'it returns false'. Refute it at one input. -/
def operOrderWrong : ChangeSpec := { name := "operOrder", fn := fun _ => fun
  | [d1, d2, d3, d4] => { results := [.lit (.bool false)], args := [d1, d2, d3, d4] }
  | _ => none }
def OperOrderWrongFalsely : Prop := operOrderRow.holds Try.pinned (OpenSpec.ofChange operOrderWrong)

/-- 'millstreamlaw01.OperRefuses': WHATEVER THE INPUT: true; the input reads as it did. -/
def operRefusesSpec : ChangeSpec := { name := "operRefuses", fn := fun _ => fun
  | [d1, d2, d3, d4] => { results := [.lit (.bool true)], args := [d1, d2, d3, d4] }
  | _ => none }
def operRefusesRow : OpenClaim := { program := "ytokcblafahiphaa", sum := "07d8acaae3e5d32779515531fa7c12cf57a5f9f11472b9c2a0db93fff6793183", func := "millstream/millstreamlaw01.OperRefuses", spec := "operRefuses", apart := false }
def OperRefusesSaid : Prop := operRefusesRow.holds Try.pinned (OpenSpec.ofChange operRefusesSpec)

/-- ITS FALSE NEIGHBOUR: 'it returns false'. Refute it at one input. -/
def operRefusesWrong : ChangeSpec := { name := "operRefuses", fn := fun _ => fun
  | [d1, d2, d3, d4] => { results := [.lit (.bool false)], args := [d1, d2, d3, d4] }
  | _ => none }
def OperRefusesWrongFalsely : Prop := operRefusesRow.holds Try.pinned (OpenSpec.ofChange operRefusesWrong)

/-- 'millstreamlaw01.OperWider': WHATEVER THE INPUT: true; the input reads as it did. -/
def operWiderSpec : ChangeSpec := { name := "operWider", fn := fun _ => fun
  | [d1, d2, d3, d4, d5] => { results := [.lit (.bool true)], args := [d1, d2, d3, d4, d5] }
  | _ => none }
def operWiderRow : OpenClaim := { program := "ytokcblafahiphaa", sum := "07d8acaae3e5d32779515531fa7c12cf57a5f9f11472b9c2a0db93fff6793183", func := "millstream/millstreamlaw01.OperWider", spec := "operWider", apart := false }
def OperWiderSaid : Prop := operWiderRow.holds Try.pinned (OpenSpec.ofChange operWiderSpec)

/-- ITS FALSE NEIGHBOUR: 'it returns false'. Refute it at one input. -/
def operWiderWrong : ChangeSpec := { name := "operWider", fn := fun _ => fun
  | [d1, d2, d3, d4, d5] => { results := [.lit (.bool false)], args := [d1, d2, d3, d4, d5] }
  | _ => none }
def OperWiderWrongFalsely : Prop := operWiderRow.holds Try.pinned (OpenSpec.ofChange operWiderWrong)

/- THE SECOND FORM. 'bulk': how many values and letters a reading holds, each counted each time it is reached (what is shared counts as often as it is met; a slice's spare places count too). A statement '..UptoSaid' is the law's where the arguments, and the package variables that the reading takes, are together of bulk at most 1048576: NARROWER than '..Said'. Prove '..Said' where nothing that the law and all that it calls make is longer than what came in: it says more and counts as full. Else prove '..UptoSaid'. A law counts once. -/
mutual
def uptoBulk {H : Type} : DataW H → Nat
  | .lit (.string bytes) => bytes.length + 1
  | .lit _ => 1
  | .nil => 1
  | .ptr d => uptoBulk d + 1
  | .slice elems spare => uptoBulkAll elems + uptoBulkAll spare + 1
  | .agg parts => uptoBulkAll parts + 1
  | .iface _ d => uptoBulk d + 1
  | .map entries => uptoBulkEntries entries + 1
  | .held _ => 1
def uptoBulkAll {H : Type} : List (DataW H) → Nat
  | [] => 0
  | d :: r => uptoBulk d + uptoBulkAll r
def uptoBulkEntries {H : Type} : List (Lit × DataW H) → Nat
  | [] => 0
  | x :: r => uptoBulkEntry x + uptoBulkEntries r
def uptoBulkEntry {H : Type} : Lit × DataW H → Nat
  | (.string bytes, d) => bytes.length + uptoBulk d + 1
  | (_, d) => uptoBulk d + 1
 end
def uptoSmall : (H : Type) → List (DataW H) → Bool := fun _ ds => decide (uptoBulkAll ds ≤ 1048576)
def OpenSpec.upto (s : _root_.Go.ChangeSpec) : _root_.Go.OpenSpec := { _root_.Go.OpenSpec.ofChange s with cond := some uptoSmall }

/-- 'millstreamlaw01.OperApplies', WHERE WHAT IT READS IS OF BULK AT MOST 1048576: true; the input reads as it did. -/
def operAppliesUptoRow : OpenClaim := { program := "ytokcblafahiphaa", sum := "07d8acaae3e5d32779515531fa7c12cf57a5f9f11472b9c2a0db93fff6793183", func := "millstream/millstreamlaw01.OperApplies", spec := "operApplies", apart := false, narrowed := true }
def OperAppliesUptoSaid : Prop := operAppliesUptoRow.holds Try.pinned (OpenSpec.upto operAppliesSpec)

/-- 'millstreamlaw01.OperBounds', WHERE WHAT IT READS IS OF BULK AT MOST 1048576: true; the input reads as it did. -/
def operBoundsUptoRow : OpenClaim := { program := "ytokcblafahiphaa", sum := "07d8acaae3e5d32779515531fa7c12cf57a5f9f11472b9c2a0db93fff6793183", func := "millstream/millstreamlaw01.OperBounds", spec := "operBounds", apart := false, narrowed := true }
def OperBoundsUptoSaid : Prop := operBoundsUptoRow.holds Try.pinned (OpenSpec.upto operBoundsSpec)

/-- 'millstreamlaw01.OperBack', WHERE WHAT IT READS IS OF BULK AT MOST 1048576: true; the input reads as it did. -/
def operBackUptoRow : OpenClaim := { program := "ytokcblafahiphaa", sum := "07d8acaae3e5d32779515531fa7c12cf57a5f9f11472b9c2a0db93fff6793183", func := "millstream/millstreamlaw01.OperBack", spec := "operBack", apart := false, narrowed := true }
def OperBackUptoSaid : Prop := operBackUptoRow.holds Try.pinned (OpenSpec.upto operBackSpec)

/-- 'millstreamlaw01.OperTwice', WHERE WHAT IT READS IS OF BULK AT MOST 1048576: true; the input reads as it did. -/
def operTwiceUptoRow : OpenClaim := { program := "ytokcblafahiphaa", sum := "07d8acaae3e5d32779515531fa7c12cf57a5f9f11472b9c2a0db93fff6793183", func := "millstream/millstreamlaw01.OperTwice", spec := "operTwice", apart := false, narrowed := true }
def OperTwiceUptoSaid : Prop := operTwiceUptoRow.holds Try.pinned (OpenSpec.upto operTwiceSpec)

/-- 'millstreamlaw01.OperOrder', WHERE WHAT IT READS IS OF BULK AT MOST 1048576: true; the input reads as it did. -/
def operOrderUptoRow : OpenClaim := { program := "ytokcblafahiphaa", sum := "07d8acaae3e5d32779515531fa7c12cf57a5f9f11472b9c2a0db93fff6793183", func := "millstream/millstreamlaw01.OperOrder", spec := "operOrder", apart := false, narrowed := true }
def OperOrderUptoSaid : Prop := operOrderUptoRow.holds Try.pinned (OpenSpec.upto operOrderSpec)

/-- 'millstreamlaw01.OperRefuses', WHERE WHAT IT READS IS OF BULK AT MOST 1048576: true; the input reads as it did. -/
def operRefusesUptoRow : OpenClaim := { program := "ytokcblafahiphaa", sum := "07d8acaae3e5d32779515531fa7c12cf57a5f9f11472b9c2a0db93fff6793183", func := "millstream/millstreamlaw01.OperRefuses", spec := "operRefuses", apart := false, narrowed := true }
def OperRefusesUptoSaid : Prop := operRefusesUptoRow.holds Try.pinned (OpenSpec.upto operRefusesSpec)

/-- 'millstreamlaw01.OperWider', WHERE WHAT IT READS IS OF BULK AT MOST 1048576: true; the input reads as it did. -/
def operWiderUptoRow : OpenClaim := { program := "ytokcblafahiphaa", sum := "07d8acaae3e5d32779515531fa7c12cf57a5f9f11472b9c2a0db93fff6793183", func := "millstream/millstreamlaw01.OperWider", spec := "operWider", apart := false, narrowed := true }
def OperWiderUptoSaid : Prop := operWiderUptoRow.holds Try.pinned (OpenSpec.upto operWiderSpec)

end Rows
end Go.Proofs.Ytokcblafahiphaa
