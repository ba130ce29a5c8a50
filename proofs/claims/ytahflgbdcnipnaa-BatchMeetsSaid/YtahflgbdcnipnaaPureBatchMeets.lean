/- The pure statement that is left of BatchMeets. Conditions: the numbers' own ranges. -/
import Derived.Test.YtahflgbdcnipnaaFacts02d
import Derived.Test.YtahflgbdcnipnaaF5
import Derived.Test.YtahflgbdcnipnaaSimPure
set_option linter.unusedVariables false
set_option linter.unusedSimpArgs false
set_option maxRecDepth 10000
namespace Go.Proofs.YtahflgbdcnipnaaS
open Go Go.Proofs
def val8 (x0 : List (List PV)) (k : Int) : Int := pInt ((x0.getD k.toNat []).headD PV.undef)
def el8 (t : Int) (x0 : List (List PV)) (i : Nat) : List PV := [PV.int IntKind.i64 (i : Int), PV.int IntKind.i64 t, PV.int IntKind.i64 (val8 x0 (i : Int))]
def elC8 (w : Int) (x0 : List (List PV)) (i : Nat) : List PV := [PV.int IntKind.i64 (IntKind.i64.wrap w), PV.int IntKind.i64 1, PV.int IntKind.i64 (val8 x0 (i : Int))]
theorem still_val {xs : List (List PV)} {x lo hi : Int} (h : xs.length < 1000000) : f20 0 xs x lo hi = some ⟨allOf xs x lo hi == x⟩ := run_true (decide_eq_true h) rfl
theorem adds8 (x0 : List (List PV)) (l : List Nat) (x : Int) : allOf (l.map (el8 1 x0)) x 0 0 = l.foldl (fun x b => IntKind.i64.wrap (x + val8 x0 ((b : Nat) : Int))) x :=
  allOf_map (el8 1 x0) _ 0 0 l (fun i _ x => ap_add _ _) x
theorem adds8c (w : Int) (x0 : List (List PV)) (l : List Nat) (x : Int) : allOf (l.map (elC8 w x0)) x 0 0 = l.foldl (fun x b => IntKind.i64.wrap (x + val8 x0 ((b : Nat) : Int))) x :=
  allOf_map (elC8 w x0) _ 0 0 l (fun i _ x => ap_add _ _) x
theorem subs8 (x0 : List (List PV)) (l : List Nat) (x : Int) : allOf (l.map (el8 2 x0)) x 0 0 = l.foldl (fun x b => IntKind.i64.wrap (x + -(val8 x0 ((b : Nat) : Int)))) x :=
  allOf_map (el8 2 x0) _ 0 0 l (fun i _ x => by
    have h : one (el8 2 x0 i) x 0 0 = IntKind.i64.wrap (x + IntKind.i64.wrap (0 - val8 x0 ((i : Nat) : Int))) := ap_sub _ _
    rw [h, wrap_in2]
    congr 1
    omega) x
theorem meets8 (x0 : List (List PV)) (l : List Nat) {x : Int} (hx : IntKind.i64.wrap x = x) : allOf (l.map (el8 1 x0) ++ l.map (el8 2 x0)) x 0 0 = x ∧ allOf (l.map (el8 2 x0) ++ l.map (el8 1 x0)) x 0 0 = x := by
  refine ⟨?_, ?_⟩
  · rw [allOf_append, adds8, subs8]
    exact adds_back _ l x hx
  · rw [allOf_append, adds8, subs8]
    have := adds_back (fun b : Nat => -(val8 x0 ((b : Nat) : Int))) l x hx
    simpa only [Int.neg_neg] using this
theorem pureBatchMeets (x0 : List (List PV)) (x1 : Int) (x2 : Int) (h0 : Wf (PV.list 3 x0)) (h1 : Wf (PV.int .i64 x1)) (h2 : Wf (PV.int .u8 x2)) (hm : Meant Try.prog [PV.list 3 x0, PV.int .i64 x1, PV.int .u8 x2]) : ∃ N, f8 N x0 x1 x2 = some ⟨true⟩ := by
  refine ⟨x0.length + 1, ?_⟩
  unfold f8
  refine bif_elim (fun h => rfl) (fun l0 => ?_)
  have l0 := of_decide_eq_false l0
  have hl : x0.length ≤ 50 := by omega
  obtain ⟨u0, u1⟩ := wf_i64 h1
  have hx : IntKind.i64.wrap x1 = x1 := wrap_small u0 u1
  have dd : ∀ i : Nat, i < x0.length → (decide ((0 : Int) ≤ (i : Int)) && decide ((i : Int) < (x0.length : Int))) = true := fun i hi => by
    rw [decide_eq_true (show (0 : Int) ≤ (i : Int) by omega), decide_eq_true (show (i : Int) < (x0.length : Int) by omega)]
    rfl
  have hG := grown (stp := f8L0r (x0.length + 1) x0 x1 x2) .s0 .s1 (fun i acc => .s2 i (acc.map (·.1)) (acc.map (·.2.1)) (acc.map (·.2.2))) .e0 .e1 (fun acc => .e2 (acc.map (·.1)) (acc.map (·.2.1)) (acc.map (·.2.2))) (fun i => (el8 2 x0 i, elC8 x2 x0 i, el8 1 x0 i)) x0.length (show x0.length ≤ 1000000 by omega)
    (fun h => run_false (decide_eq_false (by omega)) rfl)
    (fun h => run_true (decide_eq_true (by omega)) (run_true (dd 0 h) (run_true (dd 0 h) (run_true (dd 0 h) rfl))))
    (fun h => run_false (decide_eq_false (by omega)) rfl)
    (fun h => run_true (decide_eq_true (by omega)) (run_true (dd 1 h) (run_true (dd 1 h) (run_true (dd 1 h) rfl))))
    (fun i acc hi hacc => by
      have q : decide ((i : Int) < (x0.length : Int)) = true := decide_eq_true (by omega)
      refine run_true q (run_true (dd i hi) (run_true (decide_eq_true (by simpa using hacc)) (run_true (dd i hi) (run_true (decide_eq_true (by simpa using hacc)) (run_true (dd i hi) (run_true (decide_eq_true (by simpa using hacc)) ?_))))))
      show some (Sum.inl (f8L0s.s2 (IntKind.i64.wrap ((i : Int) + 1)) (acc.map (·.1) ++ [el8 2 x0 i]) (acc.map (·.2.1) ++ [elC8 x2 x0 i]) (acc.map (·.2.2) ++ [el8 1 x0 i]))) = _
      rw [wrap_next (i := i) (by omega), List.map_append, List.map_append, List.map_append]
      rfl)
    (fun acc => run_false (decide_eq_false (show ¬ ((x0.length : Int) < (x0.length : Int)) by omega)) rfl)
  obtain ⟨m1, m2⟩ := meets8 x0 (List.range' 0 x0.length) hx
  have m3 : allOf ((List.range' 0 x0.length).map (el8 1 x0)) x1 0 0 = allOf ((List.range' 0 x0.length).map (elC8 x2 x0)) x1 0 0 := by rw [adds8, adds8c]
  rcases hG with ⟨hn, hG⟩ | ⟨hn, hG⟩ | ⟨hn, hG⟩
  · rw [hG]
    have e : f20 0 [] x1 0 0 = some ⟨true⟩ := by
      rw [still_val (by simp), allOf_nil]
      simp
    refine run_true (congrArg (fun o => (o.getD f20d).y0) e) (run_true (congrArg (fun o => (o.getD f20d).y0) e) ?_)
    exact congrArg (fun b => some (f8o.r0 b)) (beq_self_eq_true _)
  · rw [hG]
    rw [hn] at m1 m2 m3
    have m1' : allOf [el8 1 x0 0, el8 2 x0 0] x1 0 0 = x1 := m1
    have m2' : allOf [el8 2 x0 0, el8 1 x0 0] x1 0 0 = x1 := m2
    have e1 : f20 0 [el8 1 x0 0, el8 2 x0 0] x1 0 0 = some ⟨true⟩ := by
      rw [still_val (by simp), m1']
      simp
    have e2 : f20 0 [el8 2 x0 0, el8 1 x0 0] x1 0 0 = some ⟨true⟩ := by
      rw [still_val (by simp), m2']
      simp
    refine run_true (congrArg (fun o => (o.getD f20d).y0) e1) (run_true (congrArg (fun o => (o.getD f20d).y0) e2) ?_)
    exact congrArg (fun b => some (f8o.r0 b)) (beq_iff_eq.2 m3)
  · rw [hG]
    simp only [List.map_map]
    have q : ∀ (g : Nat → List PV), ((List.range' 0 x0.length).map g).length = x0.length := fun g => by rw [List.length_map, List.length_range']
    have j : ∀ (g k : Nat → List PV), f12 0 [[PV.list 44 ((List.range' 0 x0.length).map g)], [PV.list 44 ((List.range' 0 x0.length).map k)]] = some ⟨(List.range' 0 x0.length).map g ++ (List.range' 0 x0.length).map k⟩ := fun g k => by
      rw [join_val (by simp) (by rw [flat_two, List.length_append, q, q]; omega), flat_two]
    have s : ∀ (g k : Nat → List PV), f20 0 ((List.range' 0 x0.length).map g ++ (List.range' 0 x0.length).map k) x1 0 0 = some ⟨allOf ((List.range' 0 x0.length).map g ++ (List.range' 0 x0.length).map k) x1 0 0 == x1⟩ := fun g k => still_val (by rw [List.length_append, q, q]; omega)
    have t1 : ∀ g k, ((f12 0 [[PV.list 44 ((List.range' 0 x0.length).map g)], [PV.list 44 ((List.range' 0 x0.length).map k)]]).getD f12d).y0 = (List.range' 0 x0.length).map g ++ (List.range' 0 x0.length).map k := fun g k => by rw [j]; rfl
    show Tr.run (f8t28 x0 x1 x2 ((List.range' 0 x0.length).map (el8 2 x0)) ((List.range' 0 x0.length).map (elC8 x2 x0)) ((List.range' 0 x0.length).map (el8 1 x0))) = _
    unfold f8t28
    simp only [t1, s, j, Option.isSome_some, Option.getD_some, m1, m2]
    refine run_true rfl (run_true rfl (run_true (beq_self_eq_true _) (run_true rfl (run_true rfl (run_true (beq_self_eq_true _) (run_true (decide_eq_true (by rw [q]; omega)) (run_true (decide_eq_true (by rw [q]; omega)) ?_)))))))
    exact congrArg (fun b => some (f8o.r0 b)) (beq_iff_eq.2 m3)
end Go.Proofs.YtahflgbdcnipnaaS
