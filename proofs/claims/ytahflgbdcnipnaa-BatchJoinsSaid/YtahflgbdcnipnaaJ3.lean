/- slices.Concat: all elements, one list behind the other. Conditions: the lengths. -/
import Derived.Below
import Derived.Deep.Draws
import Derived.Deep.AppendLies
import Derived.Maps.AppendAt
import Derived.OwnWalk
import Derived.Laws.BytesArg
import Derived.Laws.MakeOwn
import Derived.Laws.OwnMore
import Derived.Deep.OwnRows
import Derived.Tactics
import Derived.Lib.ConvBytes
import Derived.Laws.Slices
import Derived.WalkKit
import Derived.KernelRfl
import Derived.RowKit3
import Derived.Deep.LoopGhost
import Derived.Deep.QuietTactic
import Derived.BigQuiet
import Derived.WideLaws
import Derived.Deep.DeepCutAuto
import Derived.Deep.CutBlock
import Derived.Deep.RegionHeld3
import Derived.Laws.Rows
import Derived.Lib.AppendStr
import Derived.ArgAppend
import Derived.Laws.IdiomCopy
import Derived.OrdersHeld
import Derived.Laws.BitsLemmas
import Derived.RowKit
import Derived.Lib.SliceRun
import Derived.Test.YtahflgbdcnipnaaJ2
set_option linter.unusedVariables false
set_option linter.unusedSimpArgs false
namespace Go.Proofs.YtahflgbdcnipnaaS
open Go Go.Proofs Go.RowKit
def pre21 (xs : List (List PV)) : Bool := decide (xs.length ≤ 1000000) && decide ((flat xs).length ≤ 1000000)
noncomputable def f21O : Ora := ⟨fun ps => okPs [(false, [.list 22])] ps && pre21 (pList (ps.headD .undef)), fun ps => .pv (.list 44 (flat (pList (ps.headD .undef))))⟩
theorem wpList_grow (S : Nat → Nat → Prop) (n : Nat) (hn : n ≤ 1000000) {ops : Array Oper} {Q : Exit → Act → World → Prop} {o : Oper} {rest : List Oper} {a : Act} {w : World} {ts : Array TypeId}
    (hg : o.guard = none) (ho : o.op = .call { callee := .value (.func 24), args := #[.const (.slice none 0 0), .tmp 23], argTypes := ts }) (hx : a.eval (.tmp 23) = .int .i64 (n : Int))
    (h : ∀ v w', Hid (Below w.heap.size w w' ∧ ResRel Try.prog S w w' (.fresh 44 []) v) → wpList Try.prog ops Q rest (a.put o.dst v) w') : wpList Try.prog ops Q (o :: rest) a w := by
  have hargs : #[] ++ (#[Operand.const (.slice none 0 0), .tmp 23]).map a.eval ++ #[] = #[Value.slice none 0 0, .int .i64 (n : Int)] := by
    simp [hx]
    rfl
  refine wpList_call (E := E21 0) (E21_ok 0) (f := 24) (fn := Try.f24) (first := #[]) (cap := #[]) hg ho rfl rfl Try.func24 rfl hargs (grow_calls S n hn w) (fun e w' q => q.imp fun _ q => q.1) ?_
  rintro v w' ⟨v', e9, h1, h2⟩
  cases e9
  exact h v w' ⟨h1, h2⟩
theorem list36 {l : List Value} (h : l.length = 36) : l = [l.getD 0 undef, l.getD 1 undef, l.getD 2 undef, l.getD 3 undef, l.getD 4 undef, l.getD 5 undef, l.getD 6 undef, l.getD 7 undef, l.getD 8 undef, l.getD 9 undef, l.getD 10 undef, l.getD 11 undef, l.getD 12 undef, l.getD 13 undef, l.getD 14 undef, l.getD 15 undef, l.getD 16 undef, l.getD 17 undef, l.getD 18 undef, l.getD 19 undef, l.getD 20 undef, l.getD 21 undef, l.getD 22 undef, l.getD 23 undef, l.getD 24 undef, l.getD 25 undef, l.getD 26 undef, l.getD 27 undef, l.getD 28 undef, l.getD 29 undef, l.getD 30 undef, l.getD 31 undef, l.getD 32 undef, l.getD 33 undef, l.getD 34 undef, l.getD 35 undef] := by
  apply List.ext_getElem?
  intro i
  by_cases hi : i < 36
  · rw [List.getElem?_eq_getElem (by omega)]
    have e : (List.range 36).map (fun i => l.getD i undef) = [l.getD 0 undef, l.getD 1 undef, l.getD 2 undef, l.getD 3 undef, l.getD 4 undef, l.getD 5 undef, l.getD 6 undef, l.getD 7 undef, l.getD 8 undef, l.getD 9 undef, l.getD 10 undef, l.getD 11 undef, l.getD 12 undef, l.getD 13 undef, l.getD 14 undef, l.getD 15 undef, l.getD 16 undef, l.getD 17 undef, l.getD 18 undef, l.getD 19 undef, l.getD 20 undef, l.getD 21 undef, l.getD 22 undef, l.getD 23 undef, l.getD 24 undef, l.getD 25 undef, l.getD 26 undef, l.getD 27 undef, l.getD 28 undef, l.getD 29 undef, l.getD 30 undef, l.getD 31 undef, l.getD 32 undef, l.getD 33 undef, l.getD 34 undef, l.getD 35 undef] := rfl
    rw [← e]
    simp [hi, List.getD_eq_getElem?_getD, h]
  · rw [List.getElem?_eq_none (by omega), List.getElem?_eq_none (by simp; omega)]
set_option maxHeartbeats 4000000 in
set_option maxRecDepth 100000 in
theorem f21_spec : Spec Try.prog 21 f21O := by
  intro w S ps vs hS hv hp
  have hp' : (okPs [(false, [.list 22])] ps && pre21 (pList (ps.headD .undef))) = true := hp
  simp only [Bool.and_eq_true] at hp'
  have hc := okPs_can hp'.1
  have hc2 : canPs [(false, [.list 22])] ps = [PV.list 22 (pList (ps.headD PV.undef))] := by kernel_rfl
  rw [hc2] at hc
  have hm := hp'.2
  show Calls Try.prog 21 vs.toArray w fun e w' => ∃ v, e = .returned v ∧ Below w.heap.size w w' ∧ ResRel Try.prog S w w' (.pv (.list 44 (flat (pList (ps.headD .undef))))) v
  rw [← hc] at hv
  generalize pList (ps.headD PV.undef) = xs at hv hm
  clear hc hc2 hp hp'
  simp only [pre21, Bool.and_eq_true, decide_eq_true_eq] at hm
  obtain ⟨hm1, hm2⟩ := hm
  simp only [VPs] at hv
  obtain ⟨v, us0, rfl, hv, rfl⟩ := hv
  refine calls_of_wp Try.func21 rfl ?_
  refine wp_later4 fun T hT D hD => ?_
  simp only [Try.ntmps21, List.size_toArray, List.length_cons, List.length_nil, Nat.reduceAdd, Nat.reduceSub, Array.replicate_succ, Array.replicate_zero, List.push_toArray, List.append_toArray, List.nil_append, List.cons_append]
  have hv1 := Hid.mk hv
  clear hv
  go_wp2
  rename_i Q1 K1 hK1
  have hv := hv1.out
  have un : ∀ (W : World) u, VP Try.prog W S .undef u := fun W u => by simp only [VP]
  have nl : VP Try.prog w S (.list 44 []) (.slice none 0 0) := by
    simp only [VP]
    exact ⟨none, 0, [], rfl, Nat.le_refl _, fun _ h => (by cases h), .inl rfl, by simp only [VPss]⟩
  have zr : VP Try.prog w S (.int .i64 0) (.int .i64 0) := by simp only [VP]
  have hrun : (evCode (E21 (xs.length + 1)) 100 T (St.plain 21 (psA xs))).run = some (.normal, (jaW ⟨xs, ((flat xs).length : Int)⟩).2) := by
    have e : T = codeA := hT.out
    rw [e, ja_run, ja_val hm1 hm2]
    rfl
  refine code_sound (E21_ok _) mixed 100 T _ _ _ hrun (outOf w S hS) _ _ [] _ w (plain_rel hS ?_) rfl _ ?_
  · show VPs Try.prog w S (psA xs) _
    unfold psA
    simp only [List.replicate, List.cons_append, List.nil_append]
    exact VPs.mk hv (VPs.mk (un _ _) (VPs.mk nl (VPs.mk zr (VPs.mk (un _ _) (VPs.mk (un _ _) (VPs.mk (un _ _) (VPs.mk (un _ _) (VPs.mk (un _ _) (VPs.mk (un _ _) (VPs.mk (un _ _) (VPs.mk (un _ _) (VPs.mk (un _ _) (VPs.mk (un _ _) (VPs.mk (un _ _) (VPs.mk (un _ _) (VPs.mk (un _ _) (VPs.mk (un _ _) (VPs.mk (un _ _) (VPs.mk (un _ _) (VPs.mk (un _ _) (VPs.mk (un _ _) (VPs.mk (un _ _) (VPs.mk (un _ _) (VPs.mk (un _ _) (VPs.mk (un _ _) (VPs.mk (un _ _) (VPs.mk (un _ _) (VPs.mk (un _ _) (VPs.mk (un _ _) (VPs.mk (un _ _) (VPs.mk (un _ _) (VPs.mk (un _ _) (VPs.mk (un _ _) (VPs.mk (un _ _) (VPs.mk (un _ _) VPs.mk0)))))))))))))))))))))))))))))))))))
  intro mu ka act1 w1 hrel hd1
  have hbel : Below w.heap.size w w1 := hrel.bel
  have htm : VAs Try.prog (cx Try.prog (outOf w S hS) [] mu ka w1) ([AV.pv (PV.list 22 xs), AV.pv .undef, AV.pv .undef, AV.pv (.int .i64 ((flat xs).length : Int))] ++ List.replicate 32 (AV.pv .undef)) act1.tmps.toList := hrel.tms
  have hlen : act1.tmps.toList.length = 36 := htm.length
  obtain ⟨x0, hx0, b0⟩ := htm.get (i := 0) rfl
  obtain ⟨x3, hx3, b3⟩ := htm.get (i := 3) rfl
  obtain ⟨tm, df⟩ := act1
  obtain rfl : df = [] := hd1
  have b0 := va_pv b0
  have b3 := va_pv b3
  simp only [VP] at b3
  subst b3
  have hS' : Smut Try.prog (outOf w S hS).S0 [] mu = S := mem_nil_smut S mu
  have b0' : VP Try.prog w1 (Smut Try.prog (outOf w S hS).S0 [] mu) (PV.list 22 xs) x0 := b0
  rw [hS'] at b0'
  have hb0 := Hid.mk b0'
  obtain ⟨g, hg, g0, g3⟩ : ∃ g : Nat → Value, tm = #[g 0, g 1, g 2, g 3, g 4, g 5, g 6, g 7, g 8, g 9, g 10, g 11, g 12, g 13, g 14, g 15, g 16, g 17, g 18, g 19, g 20, g 21, g 22, g 23, g 24, g 25, g 26, g 27, g 28, g 29, g 30, g 31, g 32, g 33, g 34, g 35] ∧ g 0 = x0 ∧ g 3 = .int .i64 ((flat xs).length : Int) := by
    refine ⟨fun i => tm.toList.getD i undef, ?_, ?_, ?_⟩
    · apply Array.ext'
      exact list36 hlen
    · show tm.toList.getD 0 undef = x0
      rw [List.getD_eq_getElem?_getD, hx0]; rfl
    · show tm.toList.getD 3 undef = _
      rw [List.getD_eq_getElem?_getD, hx3]; rfl
  subst hg
  rw [g0, g3]
  have hgg := Hid.mk g0
  clear hrel b0 b0' hS' htm hlen hx0 hx3 g0 g3
  show K1 _ w1
  refine hK1 _ _ ?_
  have hQ1 : Hid (Q1 = bodyPost Try.prog Try.f21 fun e w' => ∃ v, e = Ending.returned v ∧ Below w.heap.size w w' ∧ ResRel Try.prog S w w' (Res.pv (PV.list 44 (flat xs))) v) := ⟨rfl⟩
  clear_value Q1
  refine wp_later1 hD.out fun F hF => ?_
  clear hK1
  go_wp2_with (with_reducible refine wpList_grow S (flat xs).length hm2 rfl rfl rfl ?_; intro v9 w2 hbb)
  have hS1 : ∀ b o, S b o → b < w1.heap.size := fun b o q => Nat.lt_of_lt_of_le (hS b o q) hbel.size
  obtain ⟨hb2, hres⟩ := hbb.out
  have hvB : VPs Try.prog w1 S (psB xs) [x0, g 1, g 2, Value.int .i64 ((flat xs).length : Int), g 4, g 5, v9, g 7, g 8, g 9, g 10, g 11, g 12, g 13, g 14, g 15, g 16, g 17, g 18, g 19, g 20, g 21, g 22, Value.int .i64 ((flat xs).length : Int), v9, g 25, g 26, g 27, g 28, g 29, g 30, g 31, g 32, g 33, g 34, g 35] := by
    unfold psB
    simp only [List.replicate, List.cons_append, List.nil_append]
    exact VPs.mk hb0.out (VPs.mk (un _ _) (VPs.mk (un _ _) (VPs.mk (un _ _) (VPs.mk (un _ _) (VPs.mk (un _ _) (VPs.mk (un _ _) (VPs.mk (un _ _) (VPs.mk (un _ _) (VPs.mk (un _ _) (VPs.mk (un _ _) (VPs.mk (un _ _) (VPs.mk (un _ _) (VPs.mk (un _ _) (VPs.mk (un _ _) (VPs.mk (un _ _) (VPs.mk (un _ _) (VPs.mk (un _ _) (VPs.mk (un _ _) (VPs.mk (un _ _) (VPs.mk (un _ _) (VPs.mk (un _ _) (VPs.mk (un _ _) (VPs.mk (un _ _) (VPs.mk (un _ _) (VPs.mk (un _ _) (VPs.mk (un _ _) (VPs.mk (un _ _) (VPs.mk (un _ _) (VPs.mk (un _ _) (VPs.mk (un _ _) (VPs.mk (un _ _) (VPs.mk (un _ _) (VPs.mk (un _ _) (VPs.mk (un _ _) (VPs.mk (un _ _) VPs.mk0)))))))))))))))))))))))))))))))))))
  obtain ⟨mu2, ka2, hrel2⟩ := own_rel (f := 21) (id := 24) (d := 6) (t := 44) (ps := psB xs) hS1 hvB hb2 hres
  rw [hQ1.out]
  obtain ⟨o, ho1, ho2⟩ := jb_val hm1 hm2
  have hrun2 : (evRest (E21 (xs.length + 1)) 100 Try.f21 F (St.own 21 (psB xs) 24 6 44 [])).run = some (jbW o) := by
    have e : F = codeB := hF.out
    rw [e, jb_run, ho1]
    rfl
  refine rest_sound (E21_ok _) mixed hrun2 hS1 (mu := mu2) (ka := ka2) ?_ ?_ ?_
  · exact hrel2
  · rfl
  intro v w' q1 q2
  refine ⟨v, rfl, hbel.trans (q1.mono hbel.size), ?_⟩
  have q3 := q2.plain hS1
  rw [ho2] at q3
  exact q3
end Go.Proofs.YtahflgbdcnipnaaS
