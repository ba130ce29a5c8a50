/- Letters of structs, and of which places a loop of the chapter hangs. Conditions: none; definitions. -/
import Derived.Test.YtihdfkdinfmhlaaProg
import Derived.Test.YtihdfkdinfmhlaaSimGrow
import Derived.KernelRfl
set_option linter.unusedVariables false
set_option linter.unusedSimpArgs false
set_option maxRecDepth 10000
namespace Go.Proofs.YtihdfkdinfmhlaaS
open Go Go.Proofs
structure S25 where
  (a0 : List (List PV)) (a1 : List (List PV))
noncomputable def S25v (x : S25) : PV := PV.agg [PV.list 3 x.a0, PV.list 50 x.a1]
noncomputable def S25r (p : PV) : S25 := ⟨(pList (p.cells.headD PV.undef)), (pList (p.cells.tail.headD PV.undef))⟩
def S25k : PK := (true, [K.list 3, K.list 50])
structure S30 where
  (a0 : List (List PV)) (a1 : List (List PV))
noncomputable def S30v (x : S30) : PV := PV.agg [PV.list 3 x.a0, PV.list 53 x.a1]
noncomputable def S30r (p : PV) : S30 := ⟨(pList (p.cells.headD PV.undef)), (pList (p.cells.tail.headD PV.undef))⟩
def S30k : PK := (true, [K.list 3, K.list 53])
def masks : Nat → Nat → Option ((List Nat × List Nat) × (List Nat × List Nat)) := fun f r => match f, r with
  | 5, 15 => some (([5, 13, 20, 26], [5, 14, 20, 30, 33, 39, 45, 49, 52, 57, 63, 69, 75, 81, 87, 94, 100, 106, 157, 159, 160, 166, 173, 184, 190, 191]), ([10], [5, 14, 20, 30, 33, 39, 45, 49, 52, 57, 63, 69, 75, 81, 87, 94, 100, 106, 157, 159, 160, 166, 173, 184, 190, 191]))
  | 9, 2 => some (([1, 3], [1, 7, 20, 24, 29]), ([1, 2], [1, 7, 20, 24, 29]))
  | 11, 3 => some (([1, 2, 3, 4], [1, 2, 3, 11, 22, 24]), ([2, 3], [1, 2, 3, 11, 22, 24]))
  | 20, 4 => some (([2, 3, 5], [2, 3, 10, 15, 18, 24, 38]), ([4], [2, 3, 10, 15, 18, 24, 38]))
  | 25, 3 => some (([0, 3, 4], [8, 25]), ([3], [8, 25]))
  | 26, 4 => some (([0, 1, 5], [7, 9, 13]), ([4], [7, 9, 13]))
  | 28, 3 => some (([0, 1, 4, 5, 6], [4, 5, 21, 36]), ([1, 4, 5], [4, 5, 21, 36]))
  | 28, 7 => some (([1, 4, 5, 7], [4, 5, 21, 36]), ([4, 5], [4, 5, 21, 36]))
  | 34, 4 => some (([0, 1, 5], [7, 9, 13]), ([4], [7, 9, 13]))
  | _, _ => none
noncomputable def E0 (N : Nat) : Env := ⟨Try.prog, fun _ => none, masks, N⟩
theorem mixed : Try.prog.follows .mixedOrders = true := by kernel_rfl
theorem E0_ok (N : Nat) : (E0 N).Ok := ⟨fun f o h => (by cases h), by kernel_rfl⟩
end Go.Proofs.YtihdfkdinfmhlaaS
