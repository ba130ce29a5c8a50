/- Places and steps in plain words. Conditions: none. -/
import Derived.Test.YtfkndbihfdjinaaF3
import Derived.Test.YtfkndbihfdjinaaSimPure
set_option linter.unusedVariables false
set_option linter.unusedSimpArgs false
set_option maxRecDepth 10000
namespace Go.Proofs.YtfkndbihfdjinaaS
open Go Go.Proofs
def blockOf (d l w : Int) : Int := IntKind.i64.wrap (IntKind.i64.wrap ((1 : Int) + nodesR d) + IntKind.i64.wrap (l * w))
def cellOf (n d l w i : Int) : Int := bif decide (i < 0) then -1 else bif decide (i ≥ n) then -1 else IntKind.i64.wrap (i * blockOf d l w)
def sizeOf (t n d l w : Int) : Int := IntKind.i64.wrap (IntKind.i64.wrap (n * blockOf d l w) + IntKind.i64.wrap ((2 : Int) * t))
theorem f20_val {x : S42} (h : x.a3 ≤ 4) : f20 0 x = some ⟨blockOf x.a3 x.a4 x.a5⟩ := run_true (decide_eq_true h) rfl
theorem f11_val {x : S42} {i : Int} (h : x.a3 ≤ 4) : f11 0 x i = some ⟨cellOf x.a1 x.a3 x.a4 x.a5 i⟩ := by
  unfold f11 f11t0 cellOf
  refine run_test (fun k => by rw [k]; rfl) (fun k => ?_)
  rw [k]
  refine run_test (fun k => by rw [k]; rfl) (fun k => ?_)
  rw [k, f20_val h]
  exact run_true rfl rfl
theorem f18_val {x : S42} (h : x.a3 ≤ 4) : f18 0 x = some ⟨sizeOf x.a0 x.a1 x.a3 x.a4 x.a5⟩ := by
  unfold f18 f18t0 sizeOf
  rw [f20_val h]
  exact run_true rfl rfl
theorem nodes_shl {d : Int} (h0 : 0 ≤ d) (h1 : d ≤ 4) : IntKind.i64.wrap (IntKind.i64.wrap ((1 : Int) * (2 : Int) ^ min d.toNat IntKind.i64.bits) - (1 : Int)) = nodesR d := by
  have : d = 0 ∨ d = 1 ∨ d = 2 ∨ d = 3 ∨ d = 4 := by omega
  rcases this with rfl | rfl | rfl | rfl | rfl <;> rfl
theorem f38_val {x : S23} (h0 : 0 ≤ x.a3) (h1 : x.a3 ≤ 4) : f38 0 x = some ⟨1, IntKind.i64.wrap (1 + nodesR x.a3), blockOf x.a3 x.a4 x.a5, IntKind.i64.wrap (x.a1 * blockOf x.a3 x.a4 x.a5)⟩ := by
  unfold f38 f38t0
  rw [nodes_shl h0 h1]
  exact run_true (decide_eq_true h0) rfl
theorem f28_val {x : S23} {i : Int} (h0 : 0 ≤ x.a3) (h1 : x.a3 ≤ 4) : f28 0 x i = some ⟨cellOf x.a1 x.a3 x.a4 x.a5 i⟩ := by
  unfold f28 f28t0 cellOf
  refine run_test (fun k => by rw [k]; rfl) (fun k => ?_)
  rw [k]
  refine run_test (fun k => by rw [k]; rfl) (fun k => ?_)
  rw [k, f38_val h0 h1]
  exact run_true rfl rfl
def wordAt (ws : List (List PV)) (i : Int) : Int := pInt ((ws.getD i.toNat []).headD PV.undef)
theorem f30_val {x : S27} {i : Int} (h0 : 0 ≤ i) (h1 : i < (x.a0.length : Int)) : f30 0 x i = some ⟨wordAt x.a0 i, 0⟩ :=
  run_false (decide_eq_false (by omega)) (run_false (decide_eq_false (by omega)) (run_true (by rw [decide_eq_true h0, decide_eq_true h1]; rfl) rfl))
theorem f35_val {x : S27} {i a b : Int} (h0 : 0 ≤ i) (h1 : i < (x.a0.length : Int)) (hl : x.a0.length ≤ 1000) :
    f35 0 x i a b = some (bif (wordAt x.a0 i == a) then ⟨x.a0.set i.toNat [PV.int .i64 b], x.a1, true, 0⟩ else ⟨x.a0, x.a1, false, 0⟩) := by
  have hd : (decide ((0 : Int) ≤ i) && decide (i < (x.a0.length : Int))) = true := by rw [decide_eq_true h0, decide_eq_true h1]; rfl
  refine run_false (decide_eq_false (by omega)) (run_false (decide_eq_false (by omega)) (run_true hd ?_))
  refine run_test (fun k => ?_) (fun k => ?_)
  · have k' : (wordAt x.a0 i == a) = true := k
    refine run_true (most_ok hl) (run_true hd ?_)
    rw [k', k]
    rfl
  · have k' : (wordAt x.a0 i == a) = false := k
    rw [k', k]
    rfl
theorem f34_val (x : S38) : f34 0 x = some ⟨decide (0 < x.a32) && decide (x.a32 ≤ x.a13)⟩ := by
  unfold f34
  refine run_test (fun k => by rw [k]; rfl) (fun k => by rw [k]; rfl)
/-- Where one goes on that does not commit yet. -/
def lateR (x : S38) : Bool := decide (0 < x.a32) && decide (x.a32 ≤ x.a13)
def onwardR (x : S38) : S38 := bif (decide (x.a26 < x.a4) && !lateR x) then { x with a16 := 17, a26 := IntKind.i64.wrap (x.a26 + 1) } else { x with a16 := 2 }
theorem f23_val (x : S38) : f23 0 x = some (onwardR x) := by
  unfold f23 f23t0 onwardR
  refine run_test (fun k => ?_) (fun k => by rw [k]; rfl)
  rw [k, f34_val]
  refine run_true rfl (run_test (fun q => ?_) (fun q => ?_))
  · have q' : (!lateR x) = true := q
    rw [q']
    rfl
  · have q' : (!lateR x) = false := q
    rw [q']
    rfl
def conf (x : S38) : S42 := ⟨x.a0, x.a1, x.a2, x.a3, x.a4, x.a5, x.a6, x.a7, x.a8, x.a9, x.a10, x.a11⟩
def cellT (x : S38) : Int := cellOf x.a1 x.a3 x.a4 x.a5 x.a17
/-- What a step asks for. -/
def goodB (x : S38) : Bool := decide (0 ≤ x.a3) && (decide (x.a3 ≤ 4) && (decide (0 ≤ cellT x) && (decide (cellT x < (x.a14.length : Int)) && (decide (x.a14.length ≤ 1000) && (decide (x.a20.length ≤ 1000) && decide (x.a35.length ≤ 1000))))))
structure Good (x : S38) : Prop where
  d0 : 0 ≤ x.a3
  d4 : x.a3 ≤ 4
  c0 : 0 ≤ cellT x
  c1 : cellT x < (x.a14.length : Int)
  lw : x.a14.length ≤ 1000
  lb : x.a20.length ≤ 1000
  ll : x.a35.length ≤ 1000
theorem good_iff {x : S38} : goodB x = true ↔ Good x := by
  unfold goodB
  simp only [Bool.and_eq_true, decide_eq_true_eq]
  exact ⟨fun ⟨a, b, c, d, e, f, g⟩ => ⟨a, b, c, d, e, f, g⟩, fun ⟨a, b, c, d, e, f, g⟩ => ⟨a, b, c, d, e, f, g⟩⟩
noncomputable def cellX (x : S38) : Int := wordAt x.a14 (cellT x)
noncomputable def cellY (x : S38) : Int := allOf x.a20 (cellX x) x.a9 x.a10
def turnedR (x : S38) : S38 := { x with a14 := x.a14.set (cellT x).toNat [PV.int .i64 x.a31] }
def widerR (n m : Int) : Int := bif decide (n < m) then (if m < IntKind.i64.wrap (n * 2) then m else IntKind.i64.wrap (n * 2)) else (if m < n then m else n)
noncomputable def comparedR (x : S38) : S38 := bif (cellX x == x.a30) then commitR (turnedR x) x.a30 else { x with a28 := widerR x.a28 x.a5, a16 := 2 }
theorem f24_val {x : S38} (h : Good x) : f24 0 x = some (comparedR x) := by
  unfold f24 f24t0
  rw [f28_val (x := ⟨x.a0, x.a1, x.a2, x.a3, x.a4, x.a5, x.a6, x.a7, x.a8, x.a9, x.a10, x.a11⟩) h.d0 h.d4]
  refine run_true rfl ?_
  have hc := f35_val (x := ⟨x.a14, x.a15⟩) (i := cellT x) (a := x.a30) (b := x.a31) h.c0 h.c1 h.lw
  have hc' : f35 0 ⟨x.a14, x.a15⟩ ((some (⟨cellOf x.a1 x.a3 x.a4 x.a5 x.a17⟩ : f28o)).getD f28d).y1 x.a30 x.a31 = _ := hc
  dsimp only at hc' ⊢
  rw [hc']
  refine run_true rfl ?_
  unfold comparedR
  have hx : cellX x = wordAt x.a14 (cellT x) := rfl
  rw [hx]
  cases hq : (wordAt x.a14 (cellT x) == x.a30) with
  | true =>
    refine run_false rfl (run_true rfl ?_)
    refine run_true ?_ rfl
    show pre22 _ = true
    unfold pre22
    rw [decide_eq_true h.ll, decide_eq_true h.lb]
    rfl
  | false =>
    refine run_false rfl (run_false rfl ?_)
    refine run_test (fun k => ?_) (fun k => ?_)
    · unfold widerR
      rw [k]
      rfl
    · unfold widerR
      rw [k]
      rfl
theorem f21_val {x : S38} (h : Good x) : f21 0 x = some ⟨cellX x, cellY x, 0⟩ := by
  unfold f21 f21t0
  rw [f28_val (x := ⟨x.a0, x.a1, x.a2, x.a3, x.a4, x.a5, x.a6, x.a7, x.a8, x.a9, x.a10, x.a11⟩) h.d0 h.d4]
  refine run_true rfl ?_
  have hc := f30_val (x := ⟨x.a14, x.a15⟩) (i := cellT x) h.c0 h.c1
  have hc' : f30 0 ⟨x.a14, x.a15⟩ ((some (⟨cellOf x.a1 x.a3 x.a4 x.a5 x.a17⟩ : f28o)).getD f28d).y1 = _ := hc
  dsimp only at hc' ⊢
  rw [hc']
  have hl := h.lb
  exact run_true rfl (run_true (decide_eq_true (by omega)) rfl)
/-- A step, and whether it is one of these. -/
noncomputable def stepT (x : S38) : S38 := bif (x.a16 == 3) then comparedR x else bif ((x.a16 != 2) && (x.a16 != 25)) then x else bif (cellY x == cellX x) then commitR x (cellX x) else bif (x.a16 == 25) then onwardR x else { x with a16 := 3, a30 := cellX x, a31 := cellY x }
def stepB (x : S38) : Bool := (x.a16 == 3) || !((x.a16 != 2) && (x.a16 != 25))
noncomputable def checkR (x : S38) : Int := ((f17 0 (conf x)).getD f17d).y1
end Go.Proofs.YtfkndbihfdjinaaS
