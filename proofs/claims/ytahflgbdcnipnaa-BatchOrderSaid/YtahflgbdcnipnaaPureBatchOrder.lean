/- The pure statement that is left of BatchOrder. Conditions: the numbers' own ranges. -/
import Derived.Test.YtahflgbdcnipnaaFacts02d
import Derived.Test.YtahflgbdcnipnaaSimPure
set_option linter.unusedVariables false
set_option linter.unusedSimpArgs false
set_option maxRecDepth 10000
namespace Go.Proofs.YtahflgbdcnipnaaS
open Go Go.Proofs
def tg7 (x0 : Int) : Int := pInt (([(PV.int IntKind.i64 (1 : Int)).cells, (PV.int IntKind.i64 (5 : Int)).cells, (PV.int IntKind.i64 (3 : Int)).cells].getD ((IntKind.i64.wrap x0).tmod (3 : Int)).toNat []).headD PV.undef)
def val7 (x1 : List (List PV)) (k : Int) : Int := pInt ((x1.getD k.toNat []).headD PV.undef)
def back7 (x1 : List (List PV)) (k : Int) : Int := IntKind.i64.wrap (IntKind.i64.wrap ((x1.length : Int) - (1 : Int)) - k)
def elA7 (x0 : Int) (x1 : List (List PV)) (i : Nat) : List PV := [PV.int IntKind.i64 (i : Int), PV.int IntKind.i64 (tg7 x0), PV.int IntKind.i64 (val7 x1 (i : Int))]
def elB7 (x0 : Int) (x1 : List (List PV)) (i : Nat) : List PV := [PV.int IntKind.i64 (i : Int), PV.int IntKind.i64 (tg7 x0), PV.int IntKind.i64 (val7 x1 (back7 x1 (i : Int)))]
theorem tg7_of {x0 : Int} (h0 : 0 ≤ x0) (h1 : x0 ≤ 255) : (0 ≤ (IntKind.i64.wrap x0).tmod 3 ∧ (IntKind.i64.wrap x0).tmod 3 < 3) ∧ (tg7 x0 = 1 ∨ tg7 x0 = 5 ∨ tg7 x0 = 3) := by
  rw [wrap_small (by omega) (by omega)]
  have hw : IntKind.i64.wrap x0 = x0 := wrap_small (by omega) (by omega)
  have e : x0.tmod 3 = x0 % 3 := Int.tmod_eq_emod_of_nonneg h0
  have hc : x0.tmod 3 = 0 ∨ x0.tmod 3 = 1 ∨ x0.tmod 3 = 2 := by omega
  unfold tg7
  rw [hw]
  refine ⟨by omega, ?_⟩
  rcases hc with h | h | h <;> rw [h]
  · exact .inl rfl
  · exact .inr (.inl rfl)
  · exact .inr (.inr rfl)
theorem back7_of {x1 : List (List PV)} {i : Nat} (hi : i < x1.length) (hl : x1.length ≤ 50) : back7 x1 (i : Int) = ((x1.length - 1 - i : Nat) : Int) := by
  unfold back7
  rw [wrap_small (n := (x1.length : Int) - 1) (by omega) (by omega), wrap_small (by omega) (by omega)]
  omega
theorem order7 {x0 : Int} {x1 : List (List PV)} (x : Int) (ht : tg7 x0 = 1 ∨ tg7 x0 = 5 ∨ tg7 x0 = 3) (hl : x1.length ≤ 50) : allOf ((List.range' 0 x1.length).map (elA7 x0 x1)) x 0 0 = allOf ((List.range' 0 x1.length).map (elB7 x0 x1)) x 0 0 := by
  have e1 := allOf_map (elA7 x0 x1) (fun x i => (ap (tg7 x0) (val7 x1 ((i : Nat) : Int)) x 0 0).y1) 0 0 (List.range' 0 x1.length) (fun i _ x => rfl) x
  have e2 := allOf_map (elB7 x0 x1) (fun x i => (ap (tg7 x0) (val7 x1 ((x1.length - 1 - i : Nat) : Int)) x 0 0).y1) 0 0 (List.range' 0 x1.length) (fun i hi x => by
    have hi' : i < x1.length := by
      have := List.mem_range'.1 hi
      omega
    have h : one (elB7 x0 x1 i) x 0 0 = (ap (tg7 x0) (val7 x1 (back7 x1 (i : Int))) x 0 0).y1 := rfl
    rw [h, back7_of hi' hl]) x
  rw [e1, e2]
  have e3 : (List.range' 0 x1.length).foldl (fun x i => (ap (tg7 x0) (val7 x1 ((x1.length - 1 - i : Nat) : Int)) x 0 0).y1) x = ((List.range' 0 x1.length).map (fun i => x1.length - 1 - i)).foldl (fun x i => (ap (tg7 x0) (val7 x1 ((i : Nat) : Int)) x 0 0).y1) x := by
    rw [List.foldl_map]
  rw [e3, range_rev, foldl_rev (fun x u w => ap_swap ht x _ _)]
theorem pureBatchOrder (x0 : Int) (x1 : List (List PV)) (x2 : Int) (h0 : Wf (PV.int .u8 x0)) (h1 : Wf (PV.list 3 x1)) (h2 : Wf (PV.int .i64 x2)) (hm : Meant Try.prog [PV.int .u8 x0, PV.list 3 x1, PV.int .i64 x2]) : ∃ N, f7 N x0 x1 x2 = some ⟨true⟩ := by
  refine ⟨x1.length + 1, ?_⟩
  unfold f7
  refine bif_elim (fun h => rfl) (fun l0 => ?_)
  have l0 := of_decide_eq_false l0
  have hl : x1.length ≤ 50 := by omega
  obtain ⟨u0, u1⟩ := wf_u8 h0
  obtain ⟨⟨g0, g1⟩, ht⟩ := tg7_of u0 u1
  refine bif_true (by
    rw [decide_eq_true g0, Bool.true_and]
    exact decide_eq_true g1) ?_
  have hG := grown (stp := f7L0r (x1.length + 1) x0 x1 x2) .s0 .s1 (fun i acc => .s2 i (acc.map (·.1)) (acc.map (·.2))) .e0 .e1 (fun acc => .e2 (acc.map (·.1)) (acc.map (·.2))) (fun i => (elB7 x0 x1 i, elA7 x0 x1 i)) x1.length (show x1.length ≤ 1000000 by omega)
    (fun h => run_false (decide_eq_false (by omega)) rfl)
    (fun h => by
      have hb := back7_of h hl
      unfold back7 at hb
      have hb' : IntKind.i64.wrap (IntKind.i64.wrap ((x1.length : Int) - (1 : Int)) - (0 : Int)) = ((x1.length - 1 - 0 : Nat) : Int) := hb
      refine run_true (decide_eq_true (by omega)) (run_true (by rw [decide_eq_true (show (0 : Int) < (x1.length : Int) by omega)]; rfl) (run_true ?_ rfl))
      rw [hb', decide_eq_true (show (0 : Int) ≤ ((x1.length - 1 - 0 : Nat) : Int) by omega), decide_eq_true (show ((x1.length - 1 - 0 : Nat) : Int) < (x1.length : Int) by omega)]
      rfl)
    (fun h => run_false (decide_eq_false (by omega)) rfl)
    (fun h => by
      have hb := back7_of (i := 1) h hl
      unfold back7 at hb
      have hb' : IntKind.i64.wrap (IntKind.i64.wrap ((x1.length : Int) - (1 : Int)) - (1 : Int)) = ((x1.length - 1 - 1 : Nat) : Int) := hb
      refine run_true (decide_eq_true (by omega)) (run_true (by rw [decide_eq_true (show (1 : Int) < (x1.length : Int) by omega)]; rfl) (run_true ?_ rfl))
      rw [hb', decide_eq_true (show (0 : Int) ≤ ((x1.length - 1 - 1 : Nat) : Int) by omega), decide_eq_true (show ((x1.length - 1 - 1 : Nat) : Int) < (x1.length : Int) by omega)]
      rfl)
    (fun i acc hi hacc => by
      have hb := back7_of hi hl
      unfold back7 at hb
      refine run_true (decide_eq_true (by omega)) (run_true (by rw [decide_eq_true (show (0 : Int) ≤ (i : Int) by omega), decide_eq_true (show (i : Int) < (x1.length : Int) by omega)]; rfl) (run_true (decide_eq_true (by simpa using hacc)) (run_true ?_ (run_true (decide_eq_true (by simpa using hacc)) ?_))))
      · rw [hb, decide_eq_true (show (0 : Int) ≤ ((x1.length - 1 - i : Nat) : Int) by omega), decide_eq_true (show ((x1.length - 1 - i : Nat) : Int) < (x1.length : Int) by omega)]
        rfl
      · show some (Sum.inl (f7L0s.s2 (IntKind.i64.wrap ((i : Int) + 1)) (acc.map (·.1) ++ [elB7 x0 x1 i]) (acc.map (·.2) ++ [elA7 x0 x1 i]))) = _
        rw [wrap_next (i := i) (by omega), List.map_append, List.map_append]
        rfl)
    (fun acc => run_false (decide_eq_false (show ¬ ((x1.length : Int) < (x1.length : Int)) by omega)) rfl)
  have hO := order7 x2 ht hl
  rcases hG with ⟨hn, hG⟩ | ⟨hn, hG⟩ | ⟨hn, hG⟩
  · rw [hG]
    exact congrArg (fun b => some (f7o.r0 b)) (beq_self_eq_true _)
  · rw [hG]
    have hb := back7_of (x1 := x1) (i := 0) (by omega) hl
    rw [hn] at hO
    exact congrArg (fun b => some (f7o.r0 b)) (beq_iff_eq.2 (show allOf [elA7 x0 x1 0] x2 0 0 = allOf [elB7 x0 x1 0] x2 0 0 from hO))
  · rw [hG]
    simp only [List.map_map]
    have q : ∀ (g : Nat → List PV), ((List.range' 0 x1.length).map g).length < 1000000 := fun g => by
      rw [List.length_map, List.length_range']
      omega
    refine run_true (decide_eq_true (q _)) (run_true (decide_eq_true (q _)) ?_)
    exact congrArg (fun b => some (f7o.r0 b)) (beq_iff_eq.2 hO)
end Go.Proofs.YtahflgbdcnipnaaS
