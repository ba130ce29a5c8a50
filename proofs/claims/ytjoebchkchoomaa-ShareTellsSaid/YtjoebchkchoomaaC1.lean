/- slices.Clone: the same elements, in an array of its own. Conditions: none. -/
import Derived.Below
import Derived.Deep.Draws
import Derived.Deep.AppendLies
import Derived.Maps.AppendAt
import Derived.OwnWalk
import Derived.Laws.BytesArg
import Derived.Laws.MakeOwn
import Derived.Laws.OwnMore
import Derived.Deep.OwnRows
import Derived.Tactics
import Derived.Lib.ConvBytes
import Derived.Laws.Slices
import Derived.WalkKit
import Derived.KernelRfl
import Derived.RowKit3
import Derived.Deep.LoopGhost
import Derived.Deep.QuietTactic
import Derived.BigQuiet
import Derived.WideLaws
import Derived.Deep.DeepCutAuto
import Derived.Deep.CutBlock
import Derived.Deep.RegionHeld3
import Derived.Laws.Rows
import Derived.Lib.AppendStr
import Derived.ArgAppend
import Derived.Laws.IdiomCopy
import Derived.OrdersHeld
import Derived.Laws.BitsLemmas
import Derived.RowKit
import Derived.Lib.SliceRun
import Derived.Test.YtjoebchkchoomaaF0
import Derived.Test.YtjoebchkchoomaaSimTail
import Derived.Test.YtjoebchkchoomaaSimArg
set_option linter.unusedVariables false
set_option linter.unusedSimpArgs false
namespace Go.Proofs.YtjoebchkchoomaaS
open Go Go.Proofs Go.RowKit
noncomputable def f76O : Ora := ⟨fun ps => okPs [(false, [.list 78])] ps && decide ((pList (ps.headD .undef)).length ≤ most), fun ps => .fresh 78 (pList (ps.headD .undef))⟩
theorem f76_rest (xs : List (List PV)) (c : Code) (hc : c = (match (match Try.f76.body with | some (.seq _ b) => b | _ => .skip) with | .seq _ b => b | b => b)) :
    (evTail (E0 0) 100 Try.f76 76 c [.list 78 xs, .undef, .list 78 [], .list 78 xs, .bool false, .undef, .undef, .undef]).run = bif decide (xs.length ≤ most) then some (.fresh 78 xs) else none := by
  subst hc
  kernel_rfl
set_option maxHeartbeats 4000000 in
set_option maxRecDepth 100000 in
theorem f76_spec : Spec Try.prog 76 f76O := by
  intro w S ps vs hS hv hp
  have hp' : (okPs [(false, [.list 78])] ps && decide ((pList (ps.headD .undef)).length ≤ most)) = true := hp
  simp only [Bool.and_eq_true] at hp'
  have hc := okPs_can hp'.1
  have hc2 : canPs [(false, [.list 78])] ps = [PV.list 78 (pList (ps.headD PV.undef))] := by kernel_rfl
  rw [hc2] at hc
  have hm := hp'.2
  show Calls Try.prog 76 vs.toArray w fun e w' => ∃ v, e = .returned v ∧ Below w.heap.size w w' ∧ ResRel Try.prog S w w' (.fresh 78 (pList (ps.headD .undef))) v
  rw [← hc] at hv
  generalize pList (ps.headD PV.undef) = xs at hv hm
  clear hc hc2 hp hp'
  simp only [VPs] at hv
  obtain ⟨v, us0, rfl, hv, rfl⟩ := hv
  have hv0 := hv
  simp only [VP] at hv
  obtain ⟨A, cap, us, rfl, hcap, hcf, hlies, hss⟩ := hv
  have hk : (kinds Try.prog 78).length = 3 := by kernel_rfl
  have hsz : (kinds Try.prog 78).length = sizeT Try.prog 78 := by kernel_rfl
  have hn : ∀ x ∈ xs, x.length = 3 := fun x hx => (hcf x hx).length.trans hk
  have heq := fun w : World => Lib.run_eql_slice_nil (P := Try.prog) w 30 78 A xs.length cap 0 0 Try.underlying30
  cases A with
  | none =>
    have hx : xs = [] := by
      rcases hlies with hu | ⟨b, o, h, _⟩
      · exact hss.none hn (by omega) hu
      · cases h
    subst hx
    have heq2 : ∀ w : World, (binOp .eql 30 (.slice none 0 cap) (.slice none 0 0)).run Try.prog w = .ok (.bool true) w := heq
    clear heq hlies hss hcf hv0 hm
    simp only [List.length_nil]
    go_enter Try.func76, Try.ntmps76
    go_wp2
    go_ret
    exact ⟨_, rfl, Below.refl _ _, (fun e he => by cases he), hsz, .inr ⟨rfl, none, rfl⟩⟩
  | some ad =>
    have heq2 : ∀ w : World, (binOp .eql 30 (.slice (some ad) xs.length cap) (.slice none 0 0)).run Try.prog w = .ok (.bool false) w := heq
    have hrest := f76_rest xs
    refine calls_of_wp Try.func76 rfl ?_
    refine wp_later fun T hT => ?_
    simp only [Try.ntmps76, List.size_toArray, List.length_cons, List.length_nil, Nat.reduceAdd, Nat.reduceSub, Array.replicate_succ, Array.replicate_zero, List.push_toArray, List.append_toArray, List.nil_append, List.cons_append]
    go_wp2
    refine tail_sound (E0_ok 0) mixed (r := .fresh 78 xs) (f := 76) (n := 100) (ps := [.list 78 xs, .undef, .list 78 [], .list 78 xs, .bool false, .undef, .undef, .undef]) ?_ rfl hS ?_ ?_ ?_
    · exact (hrest T hT.out).trans (by rw [hm]; rfl)
    · have nl : VP Try.prog w S (.list 78 []) (.slice none 0 0) := by
        simp only [VP]
        exact ⟨none, 0, [], rfl, Nat.le_refl _, fun _ h => (by cases h), .inl rfl, by simp only [VPss]⟩
      have un : ∀ u, VP Try.prog w S .undef u := fun u => by simp only [VP]
      have bl : VP Try.prog w S (.bool false) (.bool false) := by simp only [VP]
      exact VPs.mk hv0 (VPs.mk (un _) (VPs.mk nl (VPs.mk hv0 (VPs.mk bl (VPs.mk (un _) (VPs.mk (un _) (VPs.mk (un _) VPs.mk0)))))))
    · rfl
    · intro v w' h1 h2
      exact ⟨v, rfl, h1, h2⟩
noncomputable def f82O : Ora := ⟨fun ps => okPs [(false, [.list 3])] ps && decide ((pList (ps.headD .undef)).length ≤ most), fun ps => .fresh 3 (pList (ps.headD .undef))⟩
theorem f82_rest (xs : List (List PV)) (c : Code) (hc : c = (match (match Try.f82.body with | some (.seq _ b) => b | _ => .skip) with | .seq _ b => b | b => b)) :
    (evTail (E0 0) 100 Try.f82 82 c [.list 3 xs, .undef, .list 3 [], .list 3 xs, .bool false, .undef, .undef, .undef]).run = bif decide (xs.length ≤ most) then some (.fresh 3 xs) else none := by
  subst hc
  kernel_rfl
set_option maxHeartbeats 4000000 in
set_option maxRecDepth 100000 in
theorem f82_spec : Spec Try.prog 82 f82O := by
  intro w S ps vs hS hv hp
  have hp' : (okPs [(false, [.list 3])] ps && decide ((pList (ps.headD .undef)).length ≤ most)) = true := hp
  simp only [Bool.and_eq_true] at hp'
  have hc := okPs_can hp'.1
  have hc2 : canPs [(false, [.list 3])] ps = [PV.list 3 (pList (ps.headD PV.undef))] := by kernel_rfl
  rw [hc2] at hc
  have hm := hp'.2
  show Calls Try.prog 82 vs.toArray w fun e w' => ∃ v, e = .returned v ∧ Below w.heap.size w w' ∧ ResRel Try.prog S w w' (.fresh 3 (pList (ps.headD .undef))) v
  rw [← hc] at hv
  generalize pList (ps.headD PV.undef) = xs at hv hm
  clear hc hc2 hp hp'
  simp only [VPs] at hv
  obtain ⟨v, us0, rfl, hv, rfl⟩ := hv
  have hv0 := hv
  simp only [VP] at hv
  obtain ⟨A, cap, us, rfl, hcap, hcf, hlies, hss⟩ := hv
  have hk : (kinds Try.prog 3).length = 1 := by kernel_rfl
  have hsz : (kinds Try.prog 3).length = sizeT Try.prog 3 := by kernel_rfl
  have hn : ∀ x ∈ xs, x.length = 1 := fun x hx => (hcf x hx).length.trans hk
  have heq := fun w : World => Lib.run_eql_slice_nil (P := Try.prog) w 24 3 A xs.length cap 0 0 Try.underlying24
  cases A with
  | none =>
    have hx : xs = [] := by
      rcases hlies with hu | ⟨b, o, h, _⟩
      · exact hss.none hn (by omega) hu
      · cases h
    subst hx
    have heq2 : ∀ w : World, (binOp .eql 24 (.slice none 0 cap) (.slice none 0 0)).run Try.prog w = .ok (.bool true) w := heq
    clear heq hlies hss hcf hv0 hm
    simp only [List.length_nil]
    go_enter Try.func82, Try.ntmps82
    go_wp2
    go_ret
    exact ⟨_, rfl, Below.refl _ _, (fun e he => by cases he), hsz, .inr ⟨rfl, none, rfl⟩⟩
  | some ad =>
    have heq2 : ∀ w : World, (binOp .eql 24 (.slice (some ad) xs.length cap) (.slice none 0 0)).run Try.prog w = .ok (.bool false) w := heq
    have hrest := f82_rest xs
    refine calls_of_wp Try.func82 rfl ?_
    refine wp_later fun T hT => ?_
    simp only [Try.ntmps82, List.size_toArray, List.length_cons, List.length_nil, Nat.reduceAdd, Nat.reduceSub, Array.replicate_succ, Array.replicate_zero, List.push_toArray, List.append_toArray, List.nil_append, List.cons_append]
    go_wp2
    refine tail_sound (E0_ok 0) mixed (r := .fresh 3 xs) (f := 82) (n := 100) (ps := [.list 3 xs, .undef, .list 3 [], .list 3 xs, .bool false, .undef, .undef, .undef]) ?_ rfl hS ?_ ?_ ?_
    · exact (hrest T hT.out).trans (by rw [hm]; rfl)
    · have nl : VP Try.prog w S (.list 3 []) (.slice none 0 0) := by
        simp only [VP]
        exact ⟨none, 0, [], rfl, Nat.le_refl _, fun _ h => (by cases h), .inl rfl, by simp only [VPss]⟩
      have un : ∀ u, VP Try.prog w S .undef u := fun u => by simp only [VP]
      have bl : VP Try.prog w S (.bool false) (.bool false) := by simp only [VP]
      exact VPs.mk hv0 (VPs.mk (un _) (VPs.mk nl (VPs.mk hv0 (VPs.mk bl (VPs.mk (un _) (VPs.mk (un _) (VPs.mk (un _) VPs.mk0)))))))
    · rfl
    · intro v w' h1 h2
      exact ⟨v, rfl, h1, h2⟩
end Go.Proofs.YtjoebchkchoomaaS
