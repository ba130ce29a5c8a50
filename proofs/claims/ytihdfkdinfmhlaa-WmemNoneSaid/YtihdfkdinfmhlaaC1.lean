/- slices.Clone: the same elements, in an array of its own. Conditions: none. -/
import Derived.Below
import Derived.Deep.Draws
import Derived.Deep.AppendLies
import Derived.Maps.AppendAt
import Derived.OwnWalk
import Derived.Laws.BytesArg
import Derived.Laws.MakeOwn
import Derived.Laws.OwnMore
import Derived.Deep.OwnRows
import Derived.Tactics
import Derived.Lib.ConvBytes
import Derived.Laws.Slices
import Derived.WalkKit
import Derived.KernelRfl
import Derived.RowKit3
import Derived.Deep.LoopGhost
import Derived.Deep.QuietTactic
import Derived.BigQuiet
import Derived.WideLaws
import Derived.Deep.DeepCutAuto
import Derived.Deep.CutBlock
import Derived.Deep.RegionHeld3
import Derived.Laws.Rows
import Derived.Lib.AppendStr
import Derived.ArgAppend
import Derived.Laws.IdiomCopy
import Derived.OrdersHeld
import Derived.Laws.BitsLemmas
import Derived.RowKit
import Derived.Lib.SliceRun
import Derived.Test.YtihdfkdinfmhlaaF0
import Derived.Test.YtihdfkdinfmhlaaSimTail
import Derived.Test.YtihdfkdinfmhlaaSimArg
set_option linter.unusedVariables false
set_option linter.unusedSimpArgs false
namespace Go.Proofs.YtihdfkdinfmhlaaS
open Go Go.Proofs Go.RowKit
noncomputable def f40O : Ora := ⟨fun ps => okPs [(false, [.list 3])] ps && decide ((pList (ps.headD .undef)).length ≤ most), fun ps => .fresh 3 (pList (ps.headD .undef))⟩
theorem f40_rest (xs : List (List PV)) (c : Code) (hc : c = (match (match Try.f40.body with | some (.seq _ b) => b | _ => .skip) with | .seq _ b => b | b => b)) :
    (evTail (E0 0) 100 Try.f40 40 c [.list 3 xs, .undef, .list 3 [], .list 3 xs, .bool false, .undef, .undef, .undef]).run = bif decide (xs.length ≤ most) then some (.fresh 3 xs) else none := by
  subst hc
  kernel_rfl
set_option maxHeartbeats 4000000 in
set_option maxRecDepth 100000 in
theorem f40_spec : Spec Try.prog 40 f40O := by
  intro w S ps vs hS hv hp
  have hp' : (okPs [(false, [.list 3])] ps && decide ((pList (ps.headD .undef)).length ≤ most)) = true := hp
  simp only [Bool.and_eq_true] at hp'
  have hc := okPs_can hp'.1
  have hc2 : canPs [(false, [.list 3])] ps = [PV.list 3 (pList (ps.headD PV.undef))] := by kernel_rfl
  rw [hc2] at hc
  have hm := hp'.2
  show Calls Try.prog 40 vs.toArray w fun e w' => ∃ v, e = .returned v ∧ Below w.heap.size w w' ∧ ResRel Try.prog S w w' (.fresh 3 (pList (ps.headD .undef))) v
  rw [← hc] at hv
  generalize pList (ps.headD PV.undef) = xs at hv hm
  clear hc hc2 hp hp'
  simp only [VPs] at hv
  obtain ⟨v, us0, rfl, hv, rfl⟩ := hv
  have hv0 := hv
  simp only [VP] at hv
  obtain ⟨A, cap, us, rfl, hcap, hcf, hlies, hss⟩ := hv
  have hk : (kinds Try.prog 3).length = 1 := by kernel_rfl
  have hsz : (kinds Try.prog 3).length = sizeT Try.prog 3 := by kernel_rfl
  have hn : ∀ x ∈ xs, x.length = 1 := fun x hx => (hcf x hx).length.trans hk
  have heq := fun w : World => Lib.run_eql_slice_nil (P := Try.prog) w 22 3 A xs.length cap 0 0 Try.underlying22
  cases A with
  | none =>
    have hx : xs = [] := by
      rcases hlies with hu | ⟨b, o, h, _⟩
      · exact hss.none hn (by omega) hu
      · cases h
    subst hx
    have heq2 : ∀ w : World, (binOp .eql 22 (.slice none 0 cap) (.slice none 0 0)).run Try.prog w = .ok (.bool true) w := heq
    clear heq hlies hss hcf hv0 hm
    simp only [List.length_nil]
    go_enter Try.func40, Try.ntmps40
    go_wp2
    go_ret
    exact ⟨_, rfl, Below.refl _ _, (fun e he => by cases he), hsz, .inr ⟨rfl, none, rfl⟩⟩
  | some ad =>
    have heq2 : ∀ w : World, (binOp .eql 22 (.slice (some ad) xs.length cap) (.slice none 0 0)).run Try.prog w = .ok (.bool false) w := heq
    have hrest := f40_rest xs
    refine calls_of_wp Try.func40 rfl ?_
    refine wp_later fun T hT => ?_
    simp only [Try.ntmps40, List.size_toArray, List.length_cons, List.length_nil, Nat.reduceAdd, Nat.reduceSub, Array.replicate_succ, Array.replicate_zero, List.push_toArray, List.append_toArray, List.nil_append, List.cons_append]
    go_wp2
    refine tail_sound (E0_ok 0) mixed (r := .fresh 3 xs) (f := 40) (n := 100) (ps := [.list 3 xs, .undef, .list 3 [], .list 3 xs, .bool false, .undef, .undef, .undef]) ?_ rfl hS ?_ ?_ ?_
    · exact (hrest T hT.out).trans (by rw [hm]; rfl)
    · have nl : VP Try.prog w S (.list 3 []) (.slice none 0 0) := by
        simp only [VP]
        exact ⟨none, 0, [], rfl, Nat.le_refl _, fun _ h => (by cases h), .inl rfl, by simp only [VPss]⟩
      have un : ∀ u, VP Try.prog w S .undef u := fun u => by simp only [VP]
      have bl : VP Try.prog w S (.bool false) (.bool false) := by simp only [VP]
      exact VPs.mk hv0 (VPs.mk (un _) (VPs.mk nl (VPs.mk hv0 (VPs.mk bl (VPs.mk (un _) (VPs.mk (un _) (VPs.mk (un _) VPs.mk0)))))))
    · rfl
    · intro v w' h1 h2
      exact ⟨v, rfl, h1, h2⟩
noncomputable def f36O : Ora := ⟨fun ps => okPs [(false, [.list 68])] ps && decide ((pList (ps.headD .undef)).length ≤ most), fun ps => .fresh 68 (pList (ps.headD .undef))⟩
theorem f36_rest (xs : List (List PV)) (c : Code) (hc : c = (match (match Try.f36.body with | some (.seq _ b) => b | _ => .skip) with | .seq _ b => b | b => b)) :
    (evTail (E0 0) 100 Try.f36 36 c [.list 68 xs, .undef, .list 68 [], .list 68 xs, .bool false, .undef, .undef, .undef]).run = bif decide (xs.length ≤ most) then some (.fresh 68 xs) else none := by
  subst hc
  kernel_rfl
set_option maxHeartbeats 4000000 in
set_option maxRecDepth 100000 in
theorem f36_spec : Spec Try.prog 36 f36O := by
  intro w S ps vs hS hv hp
  have hp' : (okPs [(false, [.list 68])] ps && decide ((pList (ps.headD .undef)).length ≤ most)) = true := hp
  simp only [Bool.and_eq_true] at hp'
  have hc := okPs_can hp'.1
  have hc2 : canPs [(false, [.list 68])] ps = [PV.list 68 (pList (ps.headD PV.undef))] := by kernel_rfl
  rw [hc2] at hc
  have hm := hp'.2
  show Calls Try.prog 36 vs.toArray w fun e w' => ∃ v, e = .returned v ∧ Below w.heap.size w w' ∧ ResRel Try.prog S w w' (.fresh 68 (pList (ps.headD .undef))) v
  rw [← hc] at hv
  generalize pList (ps.headD PV.undef) = xs at hv hm
  clear hc hc2 hp hp'
  simp only [VPs] at hv
  obtain ⟨v, us0, rfl, hv, rfl⟩ := hv
  have hv0 := hv
  simp only [VP] at hv
  obtain ⟨A, cap, us, rfl, hcap, hcf, hlies, hss⟩ := hv
  have hk : (kinds Try.prog 68).length = 3 := by kernel_rfl
  have hsz : (kinds Try.prog 68).length = sizeT Try.prog 68 := by kernel_rfl
  have hn : ∀ x ∈ xs, x.length = 3 := fun x hx => (hcf x hx).length.trans hk
  have heq := fun w : World => Lib.run_eql_slice_nil (P := Try.prog) w 50 68 A xs.length cap 0 0 Try.underlying50
  cases A with
  | none =>
    have hx : xs = [] := by
      rcases hlies with hu | ⟨b, o, h, _⟩
      · exact hss.none hn (by omega) hu
      · cases h
    subst hx
    have heq2 : ∀ w : World, (binOp .eql 50 (.slice none 0 cap) (.slice none 0 0)).run Try.prog w = .ok (.bool true) w := heq
    clear heq hlies hss hcf hv0 hm
    simp only [List.length_nil]
    go_enter Try.func36, Try.ntmps36
    go_wp2
    go_ret
    exact ⟨_, rfl, Below.refl _ _, (fun e he => by cases he), hsz, .inr ⟨rfl, none, rfl⟩⟩
  | some ad =>
    have heq2 : ∀ w : World, (binOp .eql 50 (.slice (some ad) xs.length cap) (.slice none 0 0)).run Try.prog w = .ok (.bool false) w := heq
    have hrest := f36_rest xs
    refine calls_of_wp Try.func36 rfl ?_
    refine wp_later fun T hT => ?_
    simp only [Try.ntmps36, List.size_toArray, List.length_cons, List.length_nil, Nat.reduceAdd, Nat.reduceSub, Array.replicate_succ, Array.replicate_zero, List.push_toArray, List.append_toArray, List.nil_append, List.cons_append]
    go_wp2
    refine tail_sound (E0_ok 0) mixed (r := .fresh 68 xs) (f := 36) (n := 100) (ps := [.list 68 xs, .undef, .list 68 [], .list 68 xs, .bool false, .undef, .undef, .undef]) ?_ rfl hS ?_ ?_ ?_
    · exact (hrest T hT.out).trans (by rw [hm]; rfl)
    · have nl : VP Try.prog w S (.list 68 []) (.slice none 0 0) := by
        simp only [VP]
        exact ⟨none, 0, [], rfl, Nat.le_refl _, fun _ h => (by cases h), .inl rfl, by simp only [VPss]⟩
      have un : ∀ u, VP Try.prog w S .undef u := fun u => by simp only [VP]
      have bl : VP Try.prog w S (.bool false) (.bool false) := by simp only [VP]
      exact VPs.mk hv0 (VPs.mk (un _) (VPs.mk nl (VPs.mk hv0 (VPs.mk bl (VPs.mk (un _) (VPs.mk (un _) (VPs.mk (un _) VPs.mk0)))))))
    · rfl
    · intro v w' h1 h2
      exact ⟨v, rfl, h1, h2⟩
noncomputable def f37O : Ora := ⟨fun ps => okPs [(false, [.list 50])] ps && decide ((pList (ps.headD .undef)).length ≤ most), fun ps => .fresh 50 (pList (ps.headD .undef))⟩
theorem f37_rest (xs : List (List PV)) (c : Code) (hc : c = (match (match Try.f37.body with | some (.seq _ b) => b | _ => .skip) with | .seq _ b => b | b => b)) :
    (evTail (E0 0) 100 Try.f37 37 c [.list 50 xs, .undef, .list 50 [], .list 50 xs, .bool false, .undef, .undef, .undef]).run = bif decide (xs.length ≤ most) then some (.fresh 50 xs) else none := by
  subst hc
  kernel_rfl
set_option maxHeartbeats 4000000 in
set_option maxRecDepth 100000 in
theorem f37_spec : Spec Try.prog 37 f37O := by
  intro w S ps vs hS hv hp
  have hp' : (okPs [(false, [.list 50])] ps && decide ((pList (ps.headD .undef)).length ≤ most)) = true := hp
  simp only [Bool.and_eq_true] at hp'
  have hc := okPs_can hp'.1
  have hc2 : canPs [(false, [.list 50])] ps = [PV.list 50 (pList (ps.headD PV.undef))] := by kernel_rfl
  rw [hc2] at hc
  have hm := hp'.2
  show Calls Try.prog 37 vs.toArray w fun e w' => ∃ v, e = .returned v ∧ Below w.heap.size w w' ∧ ResRel Try.prog S w w' (.fresh 50 (pList (ps.headD .undef))) v
  rw [← hc] at hv
  generalize pList (ps.headD PV.undef) = xs at hv hm
  clear hc hc2 hp hp'
  simp only [VPs] at hv
  obtain ⟨v, us0, rfl, hv, rfl⟩ := hv
  have hv0 := hv
  simp only [VP] at hv
  obtain ⟨A, cap, us, rfl, hcap, hcf, hlies, hss⟩ := hv
  have hk : (kinds Try.prog 50).length = 1 := by kernel_rfl
  have hsz : (kinds Try.prog 50).length = sizeT Try.prog 50 := by kernel_rfl
  have hn : ∀ x ∈ xs, x.length = 1 := fun x hx => (hcf x hx).length.trans hk
  have heq := fun w : World => Lib.run_eql_slice_nil (P := Try.prog) w 23 50 A xs.length cap 0 0 Try.underlying23
  cases A with
  | none =>
    have hx : xs = [] := by
      rcases hlies with hu | ⟨b, o, h, _⟩
      · exact hss.none hn (by omega) hu
      · cases h
    subst hx
    have heq2 : ∀ w : World, (binOp .eql 23 (.slice none 0 cap) (.slice none 0 0)).run Try.prog w = .ok (.bool true) w := heq
    clear heq hlies hss hcf hv0 hm
    simp only [List.length_nil]
    go_enter Try.func37, Try.ntmps37
    go_wp2
    go_ret
    exact ⟨_, rfl, Below.refl _ _, (fun e he => by cases he), hsz, .inr ⟨rfl, none, rfl⟩⟩
  | some ad =>
    have heq2 : ∀ w : World, (binOp .eql 23 (.slice (some ad) xs.length cap) (.slice none 0 0)).run Try.prog w = .ok (.bool false) w := heq
    have hrest := f37_rest xs
    refine calls_of_wp Try.func37 rfl ?_
    refine wp_later fun T hT => ?_
    simp only [Try.ntmps37, List.size_toArray, List.length_cons, List.length_nil, Nat.reduceAdd, Nat.reduceSub, Array.replicate_succ, Array.replicate_zero, List.push_toArray, List.append_toArray, List.nil_append, List.cons_append]
    go_wp2
    refine tail_sound (E0_ok 0) mixed (r := .fresh 50 xs) (f := 37) (n := 100) (ps := [.list 50 xs, .undef, .list 50 [], .list 50 xs, .bool false, .undef, .undef, .undef]) ?_ rfl hS ?_ ?_ ?_
    · exact (hrest T hT.out).trans (by rw [hm]; rfl)
    · have nl : VP Try.prog w S (.list 50 []) (.slice none 0 0) := by
        simp only [VP]
        exact ⟨none, 0, [], rfl, Nat.le_refl _, fun _ h => (by cases h), .inl rfl, by simp only [VPss]⟩
      have un : ∀ u, VP Try.prog w S .undef u := fun u => by simp only [VP]
      have bl : VP Try.prog w S (.bool false) (.bool false) := by simp only [VP]
      exact VPs.mk hv0 (VPs.mk (un _) (VPs.mk nl (VPs.mk hv0 (VPs.mk bl (VPs.mk (un _) (VPs.mk (un _) (VPs.mk (un _) VPs.mk0)))))))
    · rfl
    · intro v w' h1 h2
      exact ⟨v, rfl, h1, h2⟩
end Go.Proofs.YtihdfkdinfmhlaaS
