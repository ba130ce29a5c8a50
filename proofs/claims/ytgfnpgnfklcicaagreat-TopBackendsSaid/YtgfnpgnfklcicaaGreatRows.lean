/-
  No cell of these rows narrows 'for every input' (looked for: loops, veiled, ifaces, maps, wideKeys, modest, calm, conditions, laid).
  DERIVED. THE GIVEN ROWS OF THIS SEAT. 5 by the template 'for every input the law returns true; each argument reads behind the call as it read before'; 0 by the template 'total and deterministic' (their statements: YtgfnpgnfklcicaaGreatTotals.lean).
  GIVEN WITH THE SEED: the statements are not yours to turn. If you find one false, say at which input.
  Laid BY PROGRAM, IN A SANDBOX (cutbox-rows.mjs): the forced cells as the released guide's own fill.sh prints them over the translation 5445ccbb08fc9c7f… (all of the seat's roots in one cut). By AI agents, Wed Nov 11 2026. No macro, syntax, notation, axiom, sorry.
-/
import Derived.Test.YtgfnpgnfklcicaaGreatChecked
import GoSem.Claim
import GoSem.ClaimJoined
import GoSem.ClaimMapViews
import Derived.JoinedTies
import Derived.KernelRfl
namespace Go.Proofs.YtgfnpgnfklcicaaGreat
/- THE CELL 'sum', in the pinned program and in every row, IS THE sha256 OF THE DUMP (.gsa) THAT YtgfnpgnfklcicaaGreatProg.lean LOADS. Nothing in Lean hashes anything: it is a label: what it is worth is what the hold of that sum in a sandbox is worth. -/
noncomputable def Tryz.pinned : Pinned := { name := "ytgfnpgnfklcicaagreat", sum := "5445ccbb08fc9c7fc21e311635f949fc2daf32e6dbeb44b76c1286496497e422", checked := Tryz.checked }
namespace Rows
def none {H : Type} : Left H := { results := [], args := [] }

/-- 'millstreamtop.TopSums': WHATEVER THE INPUT: true; the input reads as it did. -/
def topSumsSpec : ChangeSpec := { name := "topSums", fn := fun _ => fun
  | [d1, d2, d3] => { results := [.lit (.bool true)], args := [d1, d2, d3] }
  | _ => none }
def topSumsRow : OpenClaim := { program := "ytgfnpgnfklcicaagreat", sum := "5445ccbb08fc9c7fc21e311635f949fc2daf32e6dbeb44b76c1286496497e422", func := "millstream/millstreamtop.TopSums", spec := "topSums", unfollowed := true, recurses := true, apart := false }
def TopSumsSaid : Prop := topSumsRow.holds Tryz.pinned (OpenSpec.ofChange topSumsSpec)

/-- ITS FALSE NEIGHBOUR: 'it returns false'. Refute it at one input. -/
def topSumsWrong : ChangeSpec := { name := "topSums", fn := fun _ => fun
  | [d1, d2, d3] => { results := [.lit (.bool false)], args := [d1, d2, d3] }
  | _ => none }
def TopSumsWrongFalsely : Prop := topSumsRow.holds Tryz.pinned (OpenSpec.ofChange topSumsWrong)

/-- 'millstreamtop.TopTickets': WHATEVER THE INPUT: true; the input reads as it did. -/
def topTicketsSpec : ChangeSpec := { name := "topTickets", fn := fun _ => fun
  | [d1, d2] => { results := [.lit (.bool true)], args := [d1, d2] }
  | _ => none }
def topTicketsRow : OpenClaim := { program := "ytgfnpgnfklcicaagreat", sum := "5445ccbb08fc9c7fc21e311635f949fc2daf32e6dbeb44b76c1286496497e422", func := "millstream/millstreamtop.TopTickets", spec := "topTickets", unfollowed := true, recurses := true, apart := false }
def TopTicketsSaid : Prop := topTicketsRow.holds Tryz.pinned (OpenSpec.ofChange topTicketsSpec)

/-- ITS FALSE NEIGHBOUR: 'it returns false'. Refute it at one input. -/
def topTicketsWrong : ChangeSpec := { name := "topTickets", fn := fun _ => fun
  | [d1, d2] => { results := [.lit (.bool false)], args := [d1, d2] }
  | _ => none }
def TopTicketsWrongFalsely : Prop := topTicketsRow.holds Tryz.pinned (OpenSpec.ofChange topTicketsWrong)

/-- 'millstreamtop.TopBounded': WHATEVER THE INPUT: true; the input reads as it did. -/
def topBoundedSpec : ChangeSpec := { name := "topBounded", fn := fun _ => fun
  | [d1, d2, d3] => { results := [.lit (.bool true)], args := [d1, d2, d3] }
  | _ => none }
def topBoundedRow : OpenClaim := { program := "ytgfnpgnfklcicaagreat", sum := "5445ccbb08fc9c7fc21e311635f949fc2daf32e6dbeb44b76c1286496497e422", func := "millstream/millstreamtop.TopBounded", spec := "topBounded", unfollowed := true, recurses := true, apart := false }
def TopBoundedSaid : Prop := topBoundedRow.holds Tryz.pinned (OpenSpec.ofChange topBoundedSpec)

/-- ITS FALSE NEIGHBOUR: 'it returns false'. Refute it at one input. -/
def topBoundedWrong : ChangeSpec := { name := "topBounded", fn := fun _ => fun
  | [d1, d2, d3] => { results := [.lit (.bool false)], args := [d1, d2, d3] }
  | _ => none }
def TopBoundedWrongFalsely : Prop := topBoundedRow.holds Tryz.pinned (OpenSpec.ofChange topBoundedWrong)

/-- 'millstreamtop.TopMeets': WHATEVER THE INPUT: true; the input reads as it did. -/
def topMeetsSpec : ChangeSpec := { name := "topMeets", fn := fun _ => fun
  | [d1, d2, d3] => { results := [.lit (.bool true)], args := [d1, d2, d3] }
  | _ => none }
def topMeetsRow : OpenClaim := { program := "ytgfnpgnfklcicaagreat", sum := "5445ccbb08fc9c7fc21e311635f949fc2daf32e6dbeb44b76c1286496497e422", func := "millstream/millstreamtop.TopMeets", spec := "topMeets", unfollowed := true, recurses := true, apart := false }
def TopMeetsSaid : Prop := topMeetsRow.holds Tryz.pinned (OpenSpec.ofChange topMeetsSpec)

/-- ITS FALSE NEIGHBOUR: 'it returns false'. Refute it at one input. -/
def topMeetsWrong : ChangeSpec := { name := "topMeets", fn := fun _ => fun
  | [d1, d2, d3] => { results := [.lit (.bool false)], args := [d1, d2, d3] }
  | _ => none }
def TopMeetsWrongFalsely : Prop := topMeetsRow.holds Tryz.pinned (OpenSpec.ofChange topMeetsWrong)

/-- 'millstreamtop.TopBackends': WHATEVER THE INPUT: true; the input reads as it did. -/
def topBackendsSpec : ChangeSpec := { name := "topBackends", fn := fun _ => fun
  | [d1, d2, d3, d4] => { results := [.lit (.bool true)], args := [d1, d2, d3, d4] }
  | _ => none }
def topBackendsRow : OpenClaim := { program := "ytgfnpgnfklcicaagreat", sum := "5445ccbb08fc9c7fc21e311635f949fc2daf32e6dbeb44b76c1286496497e422", func := "millstream/millstreamtop.TopBackends", spec := "topBackends", unfollowed := true, recurses := true, apart := false }
def TopBackendsSaid : Prop := topBackendsRow.holds Tryz.pinned (OpenSpec.ofChange topBackendsSpec)

/-- ITS FALSE NEIGHBOUR: 'it returns false'. Refute it at one input. -/
def topBackendsWrong : ChangeSpec := { name := "topBackends", fn := fun _ => fun
  | [d1, d2, d3, d4] => { results := [.lit (.bool false)], args := [d1, d2, d3, d4] }
  | _ => none }
def TopBackendsWrongFalsely : Prop := topBackendsRow.holds Tryz.pinned (OpenSpec.ofChange topBackendsWrong)

/- THE SECOND FORM. 'bulk': how many values and letters a reading holds, each counted each time it is reached (what is shared counts as often as it is met; a slice's spare places count too). A statement '..UptoSaid' is the law's where the arguments, and the package variables that the reading takes, are together of bulk at most 1048576: NARROWER than '..Said'. Prove '..Said' where nothing that the law and all that it calls make is longer than what came in: it says more and counts as full. Else prove '..UptoSaid'. A law counts once. -/
mutual
def uptoBulk {H : Type} : DataW H → Nat
  | .lit (.string bytes) => bytes.length + 1
  | .lit _ => 1
  | .nil => 1
  | .ptr d => uptoBulk d + 1
  | .slice elems spare => uptoBulkAll elems + uptoBulkAll spare + 1
  | .agg parts => uptoBulkAll parts + 1
  | .iface _ d => uptoBulk d + 1
  | .map entries => uptoBulkEntries entries + 1
  | .held _ => 1
def uptoBulkAll {H : Type} : List (DataW H) → Nat
  | [] => 0
  | d :: r => uptoBulk d + uptoBulkAll r
def uptoBulkEntries {H : Type} : List (Lit × DataW H) → Nat
  | [] => 0
  | x :: r => uptoBulkEntry x + uptoBulkEntries r
def uptoBulkEntry {H : Type} : Lit × DataW H → Nat
  | (.string bytes, d) => bytes.length + uptoBulk d + 1
  | (_, d) => uptoBulk d + 1
 end
def uptoSmall : (H : Type) → List (DataW H) → Bool := fun _ ds => decide (uptoBulkAll ds ≤ 1048576)
def OpenSpec.upto (s : _root_.Go.ChangeSpec) : _root_.Go.OpenSpec := { _root_.Go.OpenSpec.ofChange s with cond := some uptoSmall }

/-- 'millstreamtop.TopSums', WHERE WHAT IT READS IS OF BULK AT MOST 1048576: true; the input reads as it did. -/
def topSumsUptoRow : OpenClaim := { program := "ytgfnpgnfklcicaagreat", sum := "5445ccbb08fc9c7fc21e311635f949fc2daf32e6dbeb44b76c1286496497e422", func := "millstream/millstreamtop.TopSums", spec := "topSums", unfollowed := true, recurses := true, apart := false, narrowed := true }
def TopSumsUptoSaid : Prop := topSumsUptoRow.holds Tryz.pinned (OpenSpec.upto topSumsSpec)

/-- 'millstreamtop.TopTickets', WHERE WHAT IT READS IS OF BULK AT MOST 1048576: true; the input reads as it did. -/
def topTicketsUptoRow : OpenClaim := { program := "ytgfnpgnfklcicaagreat", sum := "5445ccbb08fc9c7fc21e311635f949fc2daf32e6dbeb44b76c1286496497e422", func := "millstream/millstreamtop.TopTickets", spec := "topTickets", unfollowed := true, recurses := true, apart := false, narrowed := true }
def TopTicketsUptoSaid : Prop := topTicketsUptoRow.holds Tryz.pinned (OpenSpec.upto topTicketsSpec)

/-- 'millstreamtop.TopBounded', WHERE WHAT IT READS IS OF BULK AT MOST 1048576: true; the input reads as it did. -/
def topBoundedUptoRow : OpenClaim := { program := "ytgfnpgnfklcicaagreat", sum := "5445ccbb08fc9c7fc21e311635f949fc2daf32e6dbeb44b76c1286496497e422", func := "millstream/millstreamtop.TopBounded", spec := "topBounded", unfollowed := true, recurses := true, apart := false, narrowed := true }
def TopBoundedUptoSaid : Prop := topBoundedUptoRow.holds Tryz.pinned (OpenSpec.upto topBoundedSpec)

/-- 'millstreamtop.TopMeets', WHERE WHAT IT READS IS OF BULK AT MOST 1048576: true; the input reads as it did. -/
def topMeetsUptoRow : OpenClaim := { program := "ytgfnpgnfklcicaagreat", sum := "5445ccbb08fc9c7fc21e311635f949fc2daf32e6dbeb44b76c1286496497e422", func := "millstream/millstreamtop.TopMeets", spec := "topMeets", unfollowed := true, recurses := true, apart := false, narrowed := true }
def TopMeetsUptoSaid : Prop := topMeetsUptoRow.holds Tryz.pinned (OpenSpec.upto topMeetsSpec)

/-- 'millstreamtop.TopBackends', WHERE WHAT IT READS IS OF BULK AT MOST 1048576: true; the input reads as it did. -/
def topBackendsUptoRow : OpenClaim := { program := "ytgfnpgnfklcicaagreat", sum := "5445ccbb08fc9c7fc21e311635f949fc2daf32e6dbeb44b76c1286496497e422", func := "millstream/millstreamtop.TopBackends", spec := "topBackends", unfollowed := true, recurses := true, apart := false, narrowed := true }
def TopBackendsUptoSaid : Prop := topBackendsUptoRow.holds Tryz.pinned (OpenSpec.upto topBackendsSpec)

end Rows
end Go.Proofs.YtgfnpgnfklcicaaGreat
