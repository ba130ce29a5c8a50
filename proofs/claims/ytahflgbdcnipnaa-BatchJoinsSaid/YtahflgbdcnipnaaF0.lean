/- Letters of structs, and of which places a loop of the chapter hangs. Conditions: none; definitions. -/
import Derived.Test.YtahflgbdcnipnaaProg
import Derived.Test.YtahflgbdcnipnaaSimGrow
import Derived.KernelRfl
set_option linter.unusedVariables false
set_option linter.unusedSimpArgs false
set_option maxRecDepth 10000
namespace Go.Proofs.YtahflgbdcnipnaaS
open Go Go.Proofs
structure S41 where
  (a0 : Int) (a1 : Int)
noncomputable def S41v (x : S41) : PV := PV.agg [PV.int IntKind.i64 x.a0, PV.int IntKind.i64 x.a1]
noncomputable def S41r (p : PV) : S41 := ⟨(pInt (p.cells.headD PV.undef)), (pInt (p.cells.tail.headD PV.undef))⟩
def S41k : PK := (true, [K.int .i64, K.int .i64])
structure S42 where
  (a0 : Int) (a1 : Int)
noncomputable def S42v (x : S42) : PV := PV.agg [PV.int IntKind.i64 x.a0, PV.int IntKind.i64 x.a1]
noncomputable def S42r (p : PV) : S42 := ⟨(pInt (p.cells.headD PV.undef)), (pInt (p.cells.tail.headD PV.undef))⟩
def S42k : PK := (true, [K.int .i64, K.int .i64])
def masks : Nat → Nat → Option ((List Nat × List Nat) × (List Nat × List Nat)) := fun f r => match f, r with
  | 6, 4 => some (([0, 1, 2, 3, 9], [14, 27, 30, 33, 42, 48, 51, 73, 75, 77]), ([0, 1, 2, 3, 8], [14, 27, 30, 33, 42, 48, 51, 73, 75, 77]))
  | 6, 10 => some (([0, 1, 2, 3, 10, 11], [14, 27, 30, 33, 42, 48, 51, 73, 75, 77]), ([0, 1, 2, 3, 8, 10], [14, 27, 30, 33, 42, 48, 51, 73, 75, 77]))
  | 7, 7 => some (([1, 2, 7, 8, 9, 10], [12, 15, 18, 29, 43, 49, 58, 61, 64]), ([2, 8, 9], [12, 15, 18, 29, 43, 49, 58, 61, 64]))
  | 8, 7 => some (([0, 1, 2, 7, 8, 9, 10], [12, 15, 18, 24, 37, 48, 58, 62, 64, 69, 71, 76, 79]), ([1, 7, 8, 9], [12, 15, 18, 24, 37, 48, 58, 62, 64, 69, 71, 76, 79]))
  | 10, 4 => some (([0, 1, 5], [7, 9, 13]), ([4], [7, 9, 13]))
  | 11, 3 => some (([0, 3, 4], [8, 25]), ([3], [8, 25]))
  | 13, 3 => some (([0, 3, 4], [8, 17]), ([3], [8, 17]))
  | 15, 3 => some (([0, 1, 5, 6], [10, 25]), ([5], [10, 25]))
  | 18, 4 => some (([0, 1, 5], [7, 9, 13]), ([4], [7, 9, 13]))
  | _, _ => none
noncomputable def E0 (N : Nat) : Env := ⟨Try.prog, fun _ => none, masks, N⟩
theorem mixed : Try.prog.follows .mixedOrders = true := by kernel_rfl
theorem E0_ok (N : Nat) : (E0 N).Ok := ⟨fun f o h => (by cases h), by kernel_rfl⟩
end Go.Proofs.YtahflgbdcnipnaaS
