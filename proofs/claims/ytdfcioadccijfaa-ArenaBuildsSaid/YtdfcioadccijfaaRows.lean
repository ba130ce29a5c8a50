/-
  No cell of these rows narrows 'for every input' (looked for: loops, veiled, ifaces, maps, wideKeys, modest, calm, conditions, laid).
  DERIVED. THE GIVEN ROWS OF THIS SEAT. 5 by the template 'for every input the law returns true; each argument reads behind the call as it read before'; 0 by the template 'total and deterministic' (their statements: YtdfcioadccijfaaTotals.lean).
  GIVEN WITH THE SEED: the statements are not yours to turn. If you find one false, say at which input.
  Laid BY PROGRAM, IN A SANDBOX (cutbox-rows.mjs): the forced cells as the released guide's own fill.sh prints them over the translation 0472dd6cdfd58c4c… (all of the seat's roots in one cut). By AI agents, Wed Nov 11 2026. No macro, syntax, notation, axiom, sorry.
-/
import Derived.Test.YtdfcioadccijfaaChecked
import GoSem.Claim
import GoSem.ClaimJoined
import GoSem.ClaimMapViews
import Derived.JoinedTies
import Derived.KernelRfl
namespace Go.Proofs.Ytdfcioadccijfaa
/- THE CELL 'sum', in the pinned program and in every row, IS THE sha256 OF THE DUMP (.gsa) THAT YtdfcioadccijfaaProg.lean LOADS. Nothing in Lean hashes anything: it is a label: what it is worth is what the hold of that sum in a sandbox is worth. -/
noncomputable def Try.pinned : Pinned := { name := "ytdfcioadccijfaa", sum := "0472dd6cdfd58c4c79a7235b48b6c3f53b1f9f974a193df20457b4b6a759fe66", checked := Try.checked }
namespace Rows
def none {H : Type} : Left H := { results := [], args := [] }

/-- 'millstreamlaw06.ArenaPlaces': WHATEVER THE INPUT: true; the input reads as it did. -/
def arenaPlacesSpec : ChangeSpec := { name := "arenaPlaces", fn := fun _ => fun
  | [d1, d2, d3, d4, d5] => { results := [.lit (.bool true)], args := [d1, d2, d3, d4, d5] }
  | _ => none }
def arenaPlacesRow : OpenClaim := { program := "ytdfcioadccijfaa", sum := "0472dd6cdfd58c4c79a7235b48b6c3f53b1f9f974a193df20457b4b6a759fe66", func := "millstream/millstreamlaw06.ArenaPlaces", spec := "arenaPlaces", unfollowed := true, recurses := true, apart := false }
def ArenaPlacesSaid : Prop := arenaPlacesRow.holds Try.pinned (OpenSpec.ofChange arenaPlacesSpec)

/-- ITS FALSE NEIGHBOUR: 'it returns false'. Refute it at one input. -/
def arenaPlacesWrong : ChangeSpec := { name := "arenaPlaces", fn := fun _ => fun
  | [d1, d2, d3, d4, d5] => { results := [.lit (.bool false)], args := [d1, d2, d3, d4, d5] }
  | _ => none }
def ArenaPlacesWrongFalsely : Prop := arenaPlacesRow.holds Try.pinned (OpenSpec.ofChange arenaPlacesWrong)

/-- 'millstreamlaw06.ArenaBuilds': WHATEVER THE INPUT: true; the input reads as it did. -/
def arenaBuildsSpec : ChangeSpec := { name := "arenaBuilds", fn := fun _ => fun
  | [d] => { results := [.lit (.bool true)], args := [d] }
  | _ => none }
def arenaBuildsRow : OpenClaim := { program := "ytdfcioadccijfaa", sum := "0472dd6cdfd58c4c79a7235b48b6c3f53b1f9f974a193df20457b4b6a759fe66", func := "millstream/millstreamlaw06.ArenaBuilds", spec := "arenaBuilds", unfollowed := true, recurses := true, apart := false }
def ArenaBuildsSaid : Prop := arenaBuildsRow.holds Try.pinned (OpenSpec.ofChange arenaBuildsSpec)

/-- ITS FALSE NEIGHBOUR: 'it returns false'. Refute it at one input. -/
def arenaBuildsWrong : ChangeSpec := { name := "arenaBuilds", fn := fun _ => fun
  | [d] => { results := [.lit (.bool false)], args := [d] }
  | _ => none }
def ArenaBuildsWrongFalsely : Prop := arenaBuildsRow.holds Try.pinned (OpenSpec.ofChange arenaBuildsWrong)

/-- 'millstreamlaw06.ArenaOnce': WHATEVER THE INPUT: true; the input reads as it did. -/
def arenaOnceSpec : ChangeSpec := { name := "arenaOnce", fn := fun _ => fun
  | [d] => { results := [.lit (.bool true)], args := [d] }
  | _ => none }
def arenaOnceRow : OpenClaim := { program := "ytdfcioadccijfaa", sum := "0472dd6cdfd58c4c79a7235b48b6c3f53b1f9f974a193df20457b4b6a759fe66", func := "millstream/millstreamlaw06.ArenaOnce", spec := "arenaOnce", unfollowed := true, recurses := true, apart := false }
def ArenaOnceSaid : Prop := arenaOnceRow.holds Try.pinned (OpenSpec.ofChange arenaOnceSpec)

/-- ITS FALSE NEIGHBOUR: 'it returns false'. Refute it at one input. -/
def arenaOnceWrong : ChangeSpec := { name := "arenaOnce", fn := fun _ => fun
  | [d] => { results := [.lit (.bool false)], args := [d] }
  | _ => none }
def ArenaOnceWrongFalsely : Prop := arenaOnceRow.holds Try.pinned (OpenSpec.ofChange arenaOnceWrong)

/-- 'millstreamlaw06.ArenaItems': WHATEVER THE INPUT: true; the input reads as it did. -/
def arenaItemsSpec : ChangeSpec := { name := "arenaItems", fn := fun _ => fun
  | [d] => { results := [.lit (.bool true)], args := [d] }
  | _ => none }
def arenaItemsRow : OpenClaim := { program := "ytdfcioadccijfaa", sum := "0472dd6cdfd58c4c79a7235b48b6c3f53b1f9f974a193df20457b4b6a759fe66", func := "millstream/millstreamlaw06.ArenaItems", spec := "arenaItems", unfollowed := true, recurses := true, apart := false }
def ArenaItemsSaid : Prop := arenaItemsRow.holds Try.pinned (OpenSpec.ofChange arenaItemsSpec)

/-- ITS FALSE NEIGHBOUR: 'it returns false'. Refute it at one input. -/
def arenaItemsWrong : ChangeSpec := { name := "arenaItems", fn := fun _ => fun
  | [d] => { results := [.lit (.bool false)], args := [d] }
  | _ => none }
def ArenaItemsWrongFalsely : Prop := arenaItemsRow.holds Try.pinned (OpenSpec.ofChange arenaItemsWrong)

/-- 'millstreamlaw06.ArenaNone': WHATEVER THE INPUT: true; the input reads as it did. -/
def arenaNoneSpec : ChangeSpec := { name := "arenaNone", fn := fun _ => fun
  | [d1, d2] => { results := [.lit (.bool true)], args := [d1, d2] }
  | _ => none }
def arenaNoneRow : OpenClaim := { program := "ytdfcioadccijfaa", sum := "0472dd6cdfd58c4c79a7235b48b6c3f53b1f9f974a193df20457b4b6a759fe66", func := "millstream/millstreamlaw06.ArenaNone", spec := "arenaNone", unfollowed := true, recurses := true, apart := false }
def ArenaNoneSaid : Prop := arenaNoneRow.holds Try.pinned (OpenSpec.ofChange arenaNoneSpec)

/-- ITS FALSE NEIGHBOUR: 'it returns false'. Refute it at one input. -/
def arenaNoneWrong : ChangeSpec := { name := "arenaNone", fn := fun _ => fun
  | [d1, d2] => { results := [.lit (.bool false)], args := [d1, d2] }
  | _ => none }
def ArenaNoneWrongFalsely : Prop := arenaNoneRow.holds Try.pinned (OpenSpec.ofChange arenaNoneWrong)

/- THE SECOND FORM. 'bulk': how many values and letters a reading holds, each counted each time it is reached (what is shared counts as often as it is met; a slice's spare places count too). A statement '..UptoSaid' is the law's where the arguments, and the package variables that the reading takes, are together of bulk at most 1048576: NARROWER than '..Said'. Prove '..Said' where nothing that the law and all that it calls make is longer than what came in: it says more and counts as full. Else prove '..UptoSaid'. A law counts once. -/
mutual
def uptoBulk {H : Type} : DataW H → Nat
  | .lit (.string bytes) => bytes.length + 1
  | .lit _ => 1
  | .nil => 1
  | .ptr d => uptoBulk d + 1
  | .slice elems spare => uptoBulkAll elems + uptoBulkAll spare + 1
  | .agg parts => uptoBulkAll parts + 1
  | .iface _ d => uptoBulk d + 1
  | .map entries => uptoBulkEntries entries + 1
  | .held _ => 1
def uptoBulkAll {H : Type} : List (DataW H) → Nat
  | [] => 0
  | d :: r => uptoBulk d + uptoBulkAll r
def uptoBulkEntries {H : Type} : List (Lit × DataW H) → Nat
  | [] => 0
  | x :: r => uptoBulkEntry x + uptoBulkEntries r
def uptoBulkEntry {H : Type} : Lit × DataW H → Nat
  | (.string bytes, d) => bytes.length + uptoBulk d + 1
  | (_, d) => uptoBulk d + 1
 end
def uptoSmall : (H : Type) → List (DataW H) → Bool := fun _ ds => decide (uptoBulkAll ds ≤ 1048576)
def OpenSpec.upto (s : _root_.Go.ChangeSpec) : _root_.Go.OpenSpec := { _root_.Go.OpenSpec.ofChange s with cond := some uptoSmall }

/-- 'millstreamlaw06.ArenaPlaces', WHERE WHAT IT READS IS OF BULK AT MOST 1048576: true; the input reads as it did. -/
def arenaPlacesUptoRow : OpenClaim := { program := "ytdfcioadccijfaa", sum := "0472dd6cdfd58c4c79a7235b48b6c3f53b1f9f974a193df20457b4b6a759fe66", func := "millstream/millstreamlaw06.ArenaPlaces", spec := "arenaPlaces", unfollowed := true, recurses := true, apart := false, narrowed := true }
def ArenaPlacesUptoSaid : Prop := arenaPlacesUptoRow.holds Try.pinned (OpenSpec.upto arenaPlacesSpec)

/-- 'millstreamlaw06.ArenaBuilds', WHERE WHAT IT READS IS OF BULK AT MOST 1048576: true; the input reads as it did. -/
def arenaBuildsUptoRow : OpenClaim := { program := "ytdfcioadccijfaa", sum := "0472dd6cdfd58c4c79a7235b48b6c3f53b1f9f974a193df20457b4b6a759fe66", func := "millstream/millstreamlaw06.ArenaBuilds", spec := "arenaBuilds", unfollowed := true, recurses := true, apart := false, narrowed := true }
def ArenaBuildsUptoSaid : Prop := arenaBuildsUptoRow.holds Try.pinned (OpenSpec.upto arenaBuildsSpec)

/-- 'millstreamlaw06.ArenaOnce', WHERE WHAT IT READS IS OF BULK AT MOST 1048576: true; the input reads as it did. -/
def arenaOnceUptoRow : OpenClaim := { program := "ytdfcioadccijfaa", sum := "0472dd6cdfd58c4c79a7235b48b6c3f53b1f9f974a193df20457b4b6a759fe66", func := "millstream/millstreamlaw06.ArenaOnce", spec := "arenaOnce", unfollowed := true, recurses := true, apart := false, narrowed := true }
def ArenaOnceUptoSaid : Prop := arenaOnceUptoRow.holds Try.pinned (OpenSpec.upto arenaOnceSpec)

/-- 'millstreamlaw06.ArenaItems', WHERE WHAT IT READS IS OF BULK AT MOST 1048576: true; the input reads as it did. -/
def arenaItemsUptoRow : OpenClaim := { program := "ytdfcioadccijfaa", sum := "0472dd6cdfd58c4c79a7235b48b6c3f53b1f9f974a193df20457b4b6a759fe66", func := "millstream/millstreamlaw06.ArenaItems", spec := "arenaItems", unfollowed := true, recurses := true, apart := false, narrowed := true }
def ArenaItemsUptoSaid : Prop := arenaItemsUptoRow.holds Try.pinned (OpenSpec.upto arenaItemsSpec)

/-- 'millstreamlaw06.ArenaNone', WHERE WHAT IT READS IS OF BULK AT MOST 1048576: true; the input reads as it did. -/
def arenaNoneUptoRow : OpenClaim := { program := "ytdfcioadccijfaa", sum := "0472dd6cdfd58c4c79a7235b48b6c3f53b1f9f974a193df20457b4b6a759fe66", func := "millstream/millstreamlaw06.ArenaNone", spec := "arenaNone", unfollowed := true, recurses := true, apart := false, narrowed := true }
def ArenaNoneUptoSaid : Prop := arenaNoneUptoRow.holds Try.pinned (OpenSpec.upto arenaNoneSpec)

end Rows
end Go.Proofs.Ytdfcioadccijfaa
