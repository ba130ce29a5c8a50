/- Letters of structs, and of which places a loop of the chapter hangs. Conditions: none; definitions. -/
import Derived.Test.YtalmkdahapemcaaProg
import Derived.Test.YtalmkdahapemcaaSimGrow
import Derived.KernelRfl
set_option linter.unusedVariables false
set_option maxRecDepth 10000
namespace Go.Proofs.YtalmkdahapemcaaS
open Go Go.Proofs
structure S23 where
  (a0 : Int) (a1 : Int) (a2 : Int) (a3 : Int) (a4 : Int) (a5 : Int) (a6 : Int) (a7 : Int) (a8 : Bool) (a9 : Int) (a10 : Int) (a11 : Int)
noncomputable def S23v (x : S23) : PV := PV.agg [PV.int IntKind.i64 x.a0, PV.int IntKind.i64 x.a1, PV.int IntKind.i64 x.a2, PV.int IntKind.i64 x.a3, PV.int IntKind.i64 x.a4, PV.int IntKind.i64 x.a5, PV.int IntKind.i64 x.a6, PV.int IntKind.i64 x.a7, PV.bool x.a8, PV.int IntKind.i64 x.a9, PV.int IntKind.i64 x.a10, PV.int IntKind.i64 x.a11]
noncomputable def S23r (p : PV) : S23 := ⟨(pInt (p.cells.headD PV.undef)), (pInt (p.cells.tail.headD PV.undef)), (pInt (p.cells.tail.tail.headD PV.undef)), (pInt (p.cells.tail.tail.tail.headD PV.undef)), (pInt (p.cells.tail.tail.tail.tail.headD PV.undef)), (pInt (p.cells.tail.tail.tail.tail.tail.headD PV.undef)), (pInt (p.cells.tail.tail.tail.tail.tail.tail.headD PV.undef)), (pInt (p.cells.tail.tail.tail.tail.tail.tail.tail.headD PV.undef)), (pBool (p.cells.tail.tail.tail.tail.tail.tail.tail.tail.headD PV.undef)), (pInt (p.cells.tail.tail.tail.tail.tail.tail.tail.tail.tail.headD PV.undef)), (pInt (p.cells.tail.tail.tail.tail.tail.tail.tail.tail.tail.tail.headD PV.undef)), (pInt (p.cells.tail.tail.tail.tail.tail.tail.tail.tail.tail.tail.tail.headD PV.undef))⟩
def S23k : PK := (true, [K.int .i64, K.int .i64, K.int .i64, K.int .i64, K.int .i64, K.int .i64, K.int .i64, K.int .i64, K.bool, K.int .i64, K.int .i64, K.int .i64])
structure S24 where
  (a0 : Int) (a1 : Int) (a2 : Int) (a3 : Int) (a4 : Int) (a5 : Int) (a6 : Int) (a7 : Int) (a8 : Bool) (a9 : Int) (a10 : Int) (a11 : Int)
noncomputable def S24v (x : S24) : PV := PV.agg [PV.int IntKind.i64 x.a0, PV.int IntKind.i64 x.a1, PV.int IntKind.i64 x.a2, PV.int IntKind.i64 x.a3, PV.int IntKind.i64 x.a4, PV.int IntKind.i64 x.a5, PV.int IntKind.i64 x.a6, PV.int IntKind.i64 x.a7, PV.bool x.a8, PV.int IntKind.i64 x.a9, PV.int IntKind.i64 x.a10, PV.int IntKind.i64 x.a11]
noncomputable def S24r (p : PV) : S24 := ⟨(pInt (p.cells.headD PV.undef)), (pInt (p.cells.tail.headD PV.undef)), (pInt (p.cells.tail.tail.headD PV.undef)), (pInt (p.cells.tail.tail.tail.headD PV.undef)), (pInt (p.cells.tail.tail.tail.tail.headD PV.undef)), (pInt (p.cells.tail.tail.tail.tail.tail.headD PV.undef)), (pInt (p.cells.tail.tail.tail.tail.tail.tail.headD PV.undef)), (pInt (p.cells.tail.tail.tail.tail.tail.tail.tail.headD PV.undef)), (pBool (p.cells.tail.tail.tail.tail.tail.tail.tail.tail.headD PV.undef)), (pInt (p.cells.tail.tail.tail.tail.tail.tail.tail.tail.tail.headD PV.undef)), (pInt (p.cells.tail.tail.tail.tail.tail.tail.tail.tail.tail.tail.headD PV.undef)), (pInt (p.cells.tail.tail.tail.tail.tail.tail.tail.tail.tail.tail.tail.headD PV.undef))⟩
def S24k : PK := (true, [K.int .i64, K.int .i64, K.int .i64, K.int .i64, K.int .i64, K.int .i64, K.int .i64, K.int .i64, K.bool, K.int .i64, K.int .i64, K.int .i64])
def masks : Nat → Nat → Option ((List Nat × List Nat) × (List Nat × List Nat)) := fun f r => match f, r with
  | 8, 2 => some (([1, 29, 30], [1]), ([1, 2], [1]))
  | _, _ => none
noncomputable def E0 (N : Nat) : Env := ⟨Try.prog, fun _ => none, masks, N⟩
theorem mixed : Try.prog.follows .mixedOrders = true := by kernel_rfl
theorem E0_ok (N : Nat) : (E0 N).Ok := ⟨fun f o h => (by cases h), by kernel_rfl⟩
end Go.Proofs.YtalmkdahapemcaaS
