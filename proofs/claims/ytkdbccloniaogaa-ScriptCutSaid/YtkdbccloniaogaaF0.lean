/- Letters of structs, and of which places a loop of the chapter hangs. Conditions: none; definitions. -/
import Derived.Test.YtkdbccloniaogaaProg
import Derived.Test.YtkdbccloniaogaaSimGrow
import Derived.KernelRfl
set_option linter.unusedVariables false
set_option maxRecDepth 10000
namespace Go.Proofs.YtkdbccloniaogaaS
open Go Go.Proofs
structure S23 where
  (a0 : Int) (a1 : Int) (a2 : Int) (a3 : Int) (a4 : Int) (a5 : Int) (a6 : Int) (a7 : Int) (a8 : Bool) (a9 : Int) (a10 : Int) (a11 : Int)
noncomputable def S23v (x : S23) : PV := PV.agg [PV.int IntKind.i64 x.a0, PV.int IntKind.i64 x.a1, PV.int IntKind.i64 x.a2, PV.int IntKind.i64 x.a3, PV.int IntKind.i64 x.a4, PV.int IntKind.i64 x.a5, PV.int IntKind.i64 x.a6, PV.int IntKind.i64 x.a7, PV.bool x.a8, PV.int IntKind.i64 x.a9, PV.int IntKind.i64 x.a10, PV.int IntKind.i64 x.a11]
noncomputable def S23r (p : PV) : S23 := ⟨(pInt (p.cells.headD PV.undef)), (pInt (p.cells.tail.headD PV.undef)), (pInt (p.cells.tail.tail.headD PV.undef)), (pInt (p.cells.tail.tail.tail.headD PV.undef)), (pInt (p.cells.tail.tail.tail.tail.headD PV.undef)), (pInt (p.cells.tail.tail.tail.tail.tail.headD PV.undef)), (pInt (p.cells.tail.tail.tail.tail.tail.tail.headD PV.undef)), (pInt (p.cells.tail.tail.tail.tail.tail.tail.tail.headD PV.undef)), (pBool (p.cells.tail.tail.tail.tail.tail.tail.tail.tail.headD PV.undef)), (pInt (p.cells.tail.tail.tail.tail.tail.tail.tail.tail.tail.headD PV.undef)), (pInt (p.cells.tail.tail.tail.tail.tail.tail.tail.tail.tail.tail.headD PV.undef)), (pInt (p.cells.tail.tail.tail.tail.tail.tail.tail.tail.tail.tail.tail.headD PV.undef))⟩
def S23k : PK := (true, [K.int .i64, K.int .i64, K.int .i64, K.int .i64, K.int .i64, K.int .i64, K.int .i64, K.int .i64, K.bool, K.int .i64, K.int .i64, K.int .i64])
structure S26 where
  (a0 : Int) (a1 : Int) (a2 : Int) (a3 : Int) (a4 : Int) (a5 : Int) (a6 : Int) (a7 : Int) (a8 : Bool) (a9 : Int) (a10 : Int) (a11 : Int)
noncomputable def S26v (x : S26) : PV := PV.agg [PV.int IntKind.i64 x.a0, PV.int IntKind.i64 x.a1, PV.int IntKind.i64 x.a2, PV.int IntKind.i64 x.a3, PV.int IntKind.i64 x.a4, PV.int IntKind.i64 x.a5, PV.int IntKind.i64 x.a6, PV.int IntKind.i64 x.a7, PV.bool x.a8, PV.int IntKind.i64 x.a9, PV.int IntKind.i64 x.a10, PV.int IntKind.i64 x.a11]
noncomputable def S26r (p : PV) : S26 := ⟨(pInt (p.cells.headD PV.undef)), (pInt (p.cells.tail.headD PV.undef)), (pInt (p.cells.tail.tail.headD PV.undef)), (pInt (p.cells.tail.tail.tail.headD PV.undef)), (pInt (p.cells.tail.tail.tail.tail.headD PV.undef)), (pInt (p.cells.tail.tail.tail.tail.tail.headD PV.undef)), (pInt (p.cells.tail.tail.tail.tail.tail.tail.headD PV.undef)), (pInt (p.cells.tail.tail.tail.tail.tail.tail.tail.headD PV.undef)), (pBool (p.cells.tail.tail.tail.tail.tail.tail.tail.tail.headD PV.undef)), (pInt (p.cells.tail.tail.tail.tail.tail.tail.tail.tail.tail.headD PV.undef)), (pInt (p.cells.tail.tail.tail.tail.tail.tail.tail.tail.tail.tail.headD PV.undef)), (pInt (p.cells.tail.tail.tail.tail.tail.tail.tail.tail.tail.tail.tail.headD PV.undef))⟩
def S26k : PK := (true, [K.int .i64, K.int .i64, K.int .i64, K.int .i64, K.int .i64, K.int .i64, K.int .i64, K.int .i64, K.bool, K.int .i64, K.int .i64, K.int .i64])
structure S36 where
  (a0 : Int) (a1 : Int)
noncomputable def S36v (x : S36) : PV := PV.agg [PV.int IntKind.i64 x.a0, PV.int IntKind.i64 x.a1]
noncomputable def S36r (p : PV) : S36 := ⟨(pInt (p.cells.headD PV.undef)), (pInt (p.cells.tail.headD PV.undef))⟩
def S36k : PK := (true, [K.int .i64, K.int .i64])
structure S38 where
  (a0 : Int) (a1 : Int) (a2 : Int) (a3 : Int) (a4 : Int)
noncomputable def S38v (x : S38) : PV := PV.agg [PV.int IntKind.i64 x.a0, PV.int IntKind.i64 x.a1, PV.int IntKind.i64 x.a2, PV.int IntKind.i64 x.a3, PV.int IntKind.i64 x.a4]
noncomputable def S38r (p : PV) : S38 := ⟨(pInt (p.cells.headD PV.undef)), (pInt (p.cells.tail.headD PV.undef)), (pInt (p.cells.tail.tail.headD PV.undef)), (pInt (p.cells.tail.tail.tail.headD PV.undef)), (pInt (p.cells.tail.tail.tail.tail.headD PV.undef))⟩
def S38k : PK := (true, [K.int .i64, K.int .i64, K.int .i64, K.int .i64, K.int .i64])
structure S40 where
  (a0 : Int) (a1 : Int)
noncomputable def S40v (x : S40) : PV := PV.agg [PV.int IntKind.i64 x.a0, PV.int IntKind.i64 x.a1]
noncomputable def S40r (p : PV) : S40 := ⟨(pInt (p.cells.headD PV.undef)), (pInt (p.cells.tail.headD PV.undef))⟩
def S40k : PK := (true, [K.int .i64, K.int .i64])
structure S42 where
  (a0 : Int) (a1 : Int) (a2 : Int) (a3 : Int) (a4 : Int)
noncomputable def S42v (x : S42) : PV := PV.agg [PV.int IntKind.i64 x.a0, PV.int IntKind.i64 x.a1, PV.int IntKind.i64 x.a2, PV.int IntKind.i64 x.a3, PV.int IntKind.i64 x.a4]
noncomputable def S42r (p : PV) : S42 := ⟨(pInt (p.cells.headD PV.undef)), (pInt (p.cells.tail.headD PV.undef)), (pInt (p.cells.tail.tail.headD PV.undef)), (pInt (p.cells.tail.tail.tail.headD PV.undef)), (pInt (p.cells.tail.tail.tail.tail.headD PV.undef))⟩
def S42k : PK := (true, [K.int .i64, K.int .i64, K.int .i64, K.int .i64, K.int .i64])
def masks : Nat → Nat → Option ((List Nat × List Nat) × (List Nat × List Nat)) := fun f r => match f, r with
  | 3, 10 => some (([1, 2, 5, 6, 11], [2, 5, 13, 16, 19, 22, 26, 32, 45, 53, 63, 69]), ([4], [2, 5, 13, 16, 19, 22, 26, 32, 45, 53, 63, 69]))
  | 6, 13 => some (([2, 12, 15], [4, 18, 22, 26, 29, 32, 40, 47, 48, 55, 56, 68, 70, 75]), ([6], [4, 18, 22, 26, 29, 32, 40, 47, 48, 55, 56, 68, 70, 75]))
  | 8, 6 => some (([0, 1, 2, 7, 8, 9], [20, 23, 26, 30, 54, 55, 59, 61, 65, 70, 88, 97, 128, 146, 148, 162, 167, 172]), ([0, 1, 2, 6, 7, 8], [20, 23, 26, 30, 54, 55, 59, 61, 65, 70, 88, 97, 128, 146, 148, 162, 167, 172]))
  | 8, 15 => some (([0, 2, 7, 8, 10, 11, 12], [20, 23, 26, 30, 54, 55, 59, 61, 65, 70, 88, 97, 128, 146, 148, 162, 167, 172]), ([0, 2, 7, 10, 11], [20, 23, 26, 30, 54, 55, 59, 61, 65, 70, 88, 97, 128, 146, 148, 162, 167, 172]))
  | 10, 3 => some (([0, 3, 4], [8, 35]), ([3], [8, 35]))
  | 11, 7 => some (([2, 18, 19, 20], [2, 11, 16, 19, 27]), ([4, 5], [2, 11, 16, 19, 27]))
  | 12, 7 => some (([1, 2, 7], [2, 10, 15, 19, 28]), ([4, 5], [2, 10, 15, 19, 28]))
  | 16, 4 => some (([3, 4, 8, 9, 10], [3, 9, 16]), ([3], [3, 9, 16]))
  | 17, 3 => some (([0, 3, 4], [10, 23, 37, 50, 65]), ([3], [10, 23, 37, 50, 65]))
  | 17, 12 => some (([0, 3, 4, 5, 6], [5, 10, 23, 37, 50, 65]), ([0, 3, 4], [5, 10, 23, 37, 50, 65]))
  | 18, 3 => some (([0, 2, 4, 5, 6], [12, 19, 31, 42, 45, 50, 55, 57, 68, 76, 80, 85]), ([0, 2, 4, 5], [12, 19, 31, 42, 45, 50, 55, 57, 68, 76, 80, 85]))
  | 18, 15 => some (([0, 2, 4, 5, 6, 9, 61], [9, 12, 19, 31, 42, 45, 50, 55, 57, 68, 76, 80, 85]), ([0, 2, 4, 5, 6, 9], [9, 12, 19, 31, 42, 45, 50, 55, 57, 68, 76, 80, 85]))
  | 19, 3 => some (([0, 5, 6], [15, 39, 86]), ([2, 3, 4, 5], [15, 39, 86]))
  | 19, 21 => some (([0, 5, 6, 8, 9, 10, 11], [9, 15, 39, 86]), ([0, 5, 6, 8, 9, 10], [9, 15, 39, 86]))
  | 20, 4 => some (([0, 1, 5], [7, 9, 13]), ([4], [7, 9, 13]))
  | 21, 2 => some (([1, 29, 30], [1]), ([1, 2], [1]))
  | 26, 3 => some (([1, 3, 4], [1, 31]), ([3], [1, 31]))
  | _, _ => none
noncomputable def E0 (N : Nat) : Env := ⟨Try.prog, fun _ => none, masks, N⟩
theorem mixed : Try.prog.follows .mixedOrders = true := by kernel_rfl
theorem E0_ok (N : Nat) : (E0 N).Ok := ⟨fun f o h => (by cases h), by kernel_rfl, fun g h => (by
  have h' : (masks g 1000000).isSome = true := h
  unfold masks at h'
  split at h' <;> simp_all)⟩
end Go.Proofs.YtkdbccloniaogaaS
