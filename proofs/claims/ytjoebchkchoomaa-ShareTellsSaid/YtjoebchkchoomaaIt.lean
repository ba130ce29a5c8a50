/- batch.All: what all ops leave, one after another. Conditions: none. -/
import Derived.Below
import Derived.Deep.Draws
import Derived.Deep.AppendLies
import Derived.Maps.AppendAt
import Derived.OwnWalk
import Derived.Laws.BytesArg
import Derived.Laws.MakeOwn
import Derived.Laws.OwnMore
import Derived.Deep.OwnRows
import Derived.Tactics
import Derived.Lib.ConvBytes
import Derived.Laws.Slices
import Derived.WalkKit
import Derived.KernelRfl
import Derived.RowKit3
import Derived.Deep.LoopGhost
import Derived.Deep.QuietTactic
import Derived.BigQuiet
import Derived.WideLaws
import Derived.Deep.DeepCutAuto
import Derived.Deep.CutBlock
import Derived.Deep.RegionHeld3
import Derived.Laws.Rows
import Derived.Lib.AppendStr
import Derived.ArgAppend
import Derived.Laws.IdiomCopy
import Derived.OrdersHeld
import Derived.Laws.BitsLemmas
import Derived.RowKit
import Derived.Lib.SliceRun
import Derived.Test.YtjoebchkchoomaaF1
import Derived.Test.YtjoebchkchoomaaRange
import Derived.Test.YtjoebchkchoomaaSimPure
set_option linter.unusedVariables false
set_option linter.unusedSimpArgs false
set_option maxRecDepth 10000
namespace Go.Proofs.YtjoebchkchoomaaS
open Go Go.Proofs Go.RowKit
section
open Go.Shelf Go.Boxes
attribute [local go_sem] Oper.semAt_some
structure Aside0 (p : Prop) : Prop where
  out : p
structure EntO where
  (f0 f1 : Int)
structure Ent where
  (f0 : Int) (f1 : EntO)
def entAt (es : List Ent) (j : Int) : Ent := es.getD j.toNat ⟨0, ⟨0, 0⟩⟩
/-- Entries that lie there. -/
def EntC (w : World) (A : Option Addr) (es : List Ent) : Prop := ∀ j : Nat, j < es.length → ∃ ad, A = some ad ∧ ad.block < w.heap.size ∧ w.cell? (ad.add (j * 3)) = some (.int .i64 (entAt es j).f0) ∧ w.cell? ⟨(ad.add (j * 3)).block, (ad.add (j * 3)).off + 1, none⟩ = some (.int .i64 (entAt es j).f1.f0) ∧ w.cell? ⟨(ad.add (j * 3)).block, (ad.add (j * 3)).off + 2, none⟩ = some (.int .i64 (entAt es j).f1.f1)
theorem add_block (a : Addr) (k : Nat) : (a.add k).block = a.block := by
  unfold Addr.add
  split <;> rfl
theorem EntC.below {w W : World} {A : Option Addr} {es : List Ent} (h : EntC w A es) (hb : Below w.heap.size w W) : EntC W A es := by
  intro j hj
  obtain ⟨ad, h1, h2, h3, h4, h5⟩ := h j hj
  have hs := hb.size
  have ha := add_block ad (j * 3)
  refine ⟨ad, h1, by omega, ?_, ?_, ?_⟩
  · rw [hb.cell (by rw [ha]; exact h2)]; exact h3
  · rw [hb.cell (by show (ad.add (j * 3)).block < _; rw [ha]; exact h2)]; exact h4
  · rw [hb.cell (by show (ad.add (j * 3)).block < _; rw [ha]; exact h2)]; exact h5
theorem EntC.at {w : World} {A : Option Addr} {es : List Ent} (h : EntC w A es) (j : Int) (h0 : 0 ≤ j) (h1 : j < es.length) : ∃ ad, A = some ad ∧ w.cell? (ad.add (j.toNat * 3)) = some (.int .i64 (entAt es j).f0) ∧ w.cell? ⟨(ad.add (j.toNat * 3)).block, (ad.add (j.toNat * 3)).off + 1, none⟩ = some (.int .i64 (entAt es j).f1.f0) ∧ w.cell? ⟨(ad.add (j.toNat * 3)).block, (ad.add (j.toNat * 3)).off + 2, none⟩ = some (.int .i64 (entAt es j).f1.f1) := by
  obtain ⟨ad, h2, _, h3⟩ := h j.toNat (by omega)
  have e : ((j.toNat : Nat) : Int) = j := by omega
  rw [e] at h3
  exact ⟨ad, h2, h3⟩
/-- What an op leaves, and whether it was done. -/
noncomputable def ap (tag v x lo hi : Int) : f81o := (f81 0 ⟨tag, v⟩ x lo hi).getD f81d
noncomputable def oper_Apply.f (_ : Nat) (tag v x lo hi : Int) : Option (Int × Bool) := some ((ap tag v x lo hi).y1, (ap tag v x lo hi).y2)
theorem oper_Apply.calls (k : Nat) (a0_0 : Int) (a0_1 : Int) (a1 : Int) (a2 : Int) (a3 : Int) (r1 : Int) (r2 : Bool) (w : World) (h : oper_Apply.f k a0_0 a0_1 a1 a2 a3 = some (r1, r2)) :
    Calls Try.prog 81 #[.agg #[.int .i64 a0_0, .int .i64 a0_1], .int .i64 a1, .int .i64 a2, .int .i64 a3] w fun e w' => e = .returned (.tuple #[.int .i64 r1, .bool r2]) ∧ Below w.heap.size w w' := by
  obtain ⟨rfl, rfl⟩ := Prod.mk.inj (Option.some.inj h)
  have hs : (f81 0 ⟨a0_0, a0_1⟩ a1 a2 a3).isSome = true := Tr.whole_some (by kernel_rfl)
  have hr : (evRes (E1 0) 100 81 [S29v ⟨a0_0, a0_1⟩, PV.int .i64 a1, PV.int .i64 a2, PV.int .i64 a3]).run = some (f81W (ap a0_0 a0_1 a1 a2 a3)) := by
    rw [f81_run, some_getD f81d hs]
    rfl
  have hv : VPs Try.prog w No [S29v ⟨a0_0, a0_1⟩, PV.int .i64 a1, PV.int .i64 a2, PV.int .i64 a3] [.agg #[.int .i64 a0_0, .int .i64 a0_1], .int .i64 a1, .int .i64 a2, .int .i64 a3] := by
    unfold S29v
    simp only [VPs, VP]
    exact ⟨_, _, rfl, ⟨[.int .i64 a0_0, .int .i64 a0_1], rfl, _, _, rfl, rfl, _, _, rfl, rfl, rfl⟩, _, _, rfl, rfl, _, _, rfl, rfl, _, _, rfl, rfl, rfl⟩
  refine (run_sound (E1_ok 0) mixed hr (S := No) (fun _ _ h => h.elim) hv).mono ?_
  rintro e w' ⟨v, rfl, h2, h3⟩
  have h3' : VP Try.prog w' No (.tup [.int .i64 _, .bool _]) v := h3
  simp only [VP, VPs] at h3'
  obtain ⟨vs, rfl, u, us, rfl, rfl, u2, us2, rfl, rfl, rfl⟩ := h3'
  exact ⟨rfl, h2⟩
/-- What is ahead of each op, and behind it. -/
noncomputable def steps (k : Nat) (lo hi : Int) : List Ent → Int → Option (List (Int × Int))
  | [], _ => some []
  | e :: r, x => (oper_Apply.f k e.f1.f0 e.f1.f1 x lo hi).bind fun q => (steps k lo hi r q.1).map ((x, q.1) :: ·)
/-- What a round keeps for the iterator: what lay ahead of all, and its four boxes. -/
def Keeps4 (n₀ B : Nat) (W W' : World) : Prop := Below n₀ W W' ∧ ∀ k, B ≤ k → k < B + 4 → W'.heap[k]? = W.heap[k]?
set_option maxRecDepth 100000 in
set_option maxHeartbeats 4000000 in
theorem cells_in (n : Nat) (hn : 2 ≤ n) (l B n₀ : Nat) (hB : n₀ ≤ B) (k : Nat) (lo hi x0 : Int) (A : Option Addr) (cap : Nat) (es : List Ent) (w0 : World) (hn0 : n₀ = w0.heap.size) (hC : EntC w0 A es) (ps : List (Int × Int)) (hu : steps k lo hi es x0 = some ps) (hsm : es.length < 1000000)
    (J Jx : List (Int × Int) → World → Prop) (hJc : ∀ s A A', Apart (B + 1) A A' → J s A → J s A')
    (hY : ∀ pre (x : Int × Int) W, J pre W → pre.length < ps.length → YieldAt Fence.wide (n - 1) Try.prog l #[.int .i64 x.1, .int .i64 x.2] W fun e W' =>
      (e = .returned (.bool true) ∧ J (pre ++ [x]) W' ∧ Keeps4 n₀ B W W') ∨ (e = .returned (.bool false) ∧ Jx (pre ++ [x]) W'))
    (W : World) (hW : Below n₀ w0 W) (b0 : Boxed W B 30 (.slice A es.length cap)) (b1 : Boxed W (B + 1) 3 (.int .i64 x0)) (b2 : Boxed W (B + 2) 3 (.int .i64 lo)) (b3 : Boxed W (B + 3) 3 (.int .i64 hi)) (h0 : J [] W) :
    CallsIn Fence.wide n Try.prog 80 #[.func (.yield l) #[] #[], .pointer (some ⟨B, 0, none⟩), .pointer (some ⟨B + 1, 0, none⟩), .pointer (some ⟨B + 2, 0, none⟩), .pointer (some ⟨B + 3, 0, none⟩)] W fun e W' => (∃ v, e = .returned v) ∧
      ((∃ ys, ys = ps ∧ J ys W') ∨ (∃ pre, pre <+: ps ∧ Jx pre W')) := by
  refine callsIn_of_wp Try.func80 rfl trivial ?_ rfl
  simp only [Try.ntmps80, List.size_toArray, List.length_cons, List.length_nil, Nat.reduceAdd, Nat.reduceSub, Array.replicate_succ, Array.replicate_zero, List.push_toArray, List.append_toArray, List.nil_append, List.cons_append]
  have c0 := b0.cell
  gi_wp2
  gi_loopw [12] (fun i wr => ∃ (j : Int) (pre rest : List (Int × Int)) (x : Int), i = .int .i64 j ∧ 0 ≤ j ∧ j ≤ es.length ∧ steps k lo hi (es.drop j.toNat) x = some rest ∧ ps = pre ++ rest ∧ Below n₀ w0 wr ∧ Boxed wr B 30 (.slice A es.length cap) ∧ Boxed wr (B + 1) 3 (.int .i64 x) ∧ Boxed wr (B + 2) 3 (.int .i64 lo) ∧ Boxed wr (B + 3) 3 (.int .i64 hi) ∧ J pre wr)
    (fun i wr => es.length - (intOf i).toNat)
  case atStart =>
    exact ⟨0, [], ps, x0, rfl, by omega, by omega, hu, rfl, hW, b0, b1, b2, b3, h0⟩
  case round =>
    obtain ⟨j, pre, rest, x, rfl, hj0, hj, hs, hp, hBw, d0, d1, d2, d3, hJs⟩ := hrel
    by_cases hlt : j < es.length
    · have hlt' : j.toNat < es.length := by omega
      have hd : es.drop j.toNat = es[j.toNat] :: es.drop (j.toNat + 1) := List.drop_eq_getElem_cons hlt'
      rw [hd] at hs
      simp only [steps] at hs
      obtain ⟨⟨y, yb⟩, ha, hs⟩ := Option.bind_eq_some_iff.mp hs
      obtain ⟨rest', hr', rfl⟩ := Option.map_eq_some_iff.mp hs
      clear hs
      have hCr : EntC wr A es := hC.below (hn0 ▸ hBw)
      obtain ⟨ad, rfl, q0, q1, q2⟩ := EntC.at hCr j hj0 hlt
      have hel : entAt es j = es[j.toNat] := by unfold entAt; simp [List.getD_eq_getElem?_getD, List.getElem?_eq_getElem hlt']
      rw [hel] at q0 q1 q2
      obtain ⟨v0, hv0⟩ : ∃ v, es[j.toNat].f0 = v := ⟨_, rfl⟩
      obtain ⟨v1, hv1⟩ : ∃ v, es[j.toNat].f1.f0 = v := ⟨_, rfl⟩
      obtain ⟨v2, hv2⟩ : ∃ v, es[j.toNat].f1.f1 = v := ⟨_, rfl⟩
      rw [hv0] at q0
      rw [hv1] at q1 ha
      rw [hv2] at q2 ha
      clear hel hd hv0 hv1 hv2 b0 b1 b2 b3 c0 hu
      have HA := Aside0.mk ha
      have HR := Aside0.mk hr'
      have HP := Aside0.mk hp
      have HC := Aside0.mk hC
      have HN := Aside0.mk hn0
      clear ha hr' hp hC hCr hn0
      have hdec : decide (j < (es.length : Int)) = true := decide_eq_true hlt
      have e1 := (d1.alloc (.cells #[.int .i64 v0, .int .i64 v1, .int .i64 v2] 78)).cell
      have e2 := (d2.alloc (.cells #[.int .i64 v0, .int .i64 v1, .int .i64 v2] 78)).cell
      have e3 := (d3.alloc (.cells #[.int .i64 v0, .int .i64 v1, .int .i64 v2] 78)).cell
      have hl0 := d0.lt
      have hl3 := d3.lt
      gi_wp2
      refine ⟨trivial, fun _ => by omega, (callsIn_wide.2 (oper_Apply.calls k v1 v2 x lo hi y yb _ HA.out)).mono ?_⟩
      rintro e w2 ⟨rfl, hb2⟩
      have hBel : Below wr.heap.size wr w2 := ((Below.refl _ wr).alloc (Nat.le_refl _) _).trans (hb2.mono (by simp))
      have hAp : Apart (B + 1) wr w2 := Apart.of_below hBel
      have hJ2 := hJc _ _ _ hAp hJs
      have hBw2 : Below n₀ w0 w2 := hAp.below hBw (by omega) (by have := HN.out; omega)
      have g0 : Boxed w2 B 30 (.slice (some ad) es.length cap) := (hBel.block _ d0.lt).trans d0
      have g1 : Boxed w2 (B + 1) 3 (.int .i64 x) := (hBel.block _ d1.lt).trans d1
      have g2 : Boxed w2 (B + 2) 3 (.int .i64 lo) := (hBel.block _ d2.lt).trans d2
      have g3 : Boxed w2 (B + 3) 3 (.int .i64 hi) := (hBel.block _ d3.lt).trans d3
      obtain ⟨fn, tmps, assign, body, hy, hR⟩ := hY pre (x, y) w2 hJ2 (by rw [HP.out]; simp)
      dsimp only at hy
      have g1c := g1.cell
      gi_wp2
      refine ⟨fun _ => by omega, hR.mono ?_⟩
      rintro e w3 (⟨rfl, hJ3, hk3⟩ | ⟨rfl, hJx3⟩)
      · have i0 : Boxed w3 B 30 (.slice (some ad) es.length cap) := (hk3.2 _ (by omega) (by omega)).trans g0
        have i1 : Boxed w3 (B + 1) 3 (.int .i64 x) := (hk3.2 _ (by omega) (by omega)).trans g1
        have i2 : Boxed w3 (B + 2) 3 (.int .i64 lo) := (hk3.2 _ (by omega) (by omega)).trans g2
        have i3 : Boxed w3 (B + 3) 3 (.int .i64 hi) := (hk3.2 _ (by omega) (by omega)).trans g3
        have hBw3 : Below n₀ w0 w3 := hBw2.trans hk3.1
        have i1c := i1.cell
        have i1f := i1.frozen
        have hAp3 : Apart (B + 1) w3 (w3.setCell ⟨B + 1, 0, none⟩ (.int .i64 y)) := Apart.setCell _ _ _
        have wj : IntKind.i64.wrap (j + 1) = j + 1 := by rw [IntKind.wrap_i64]; omega
        gi_wp2
        go_roundw
        case rel => exact ⟨j + 1, pre ++ [(x, y)], rest', y, by first | rfl | (rw [wj]; rfl) | (simp [wj]; done), by omega, by omega, by rw [show (j + 1).toNat = j.toNat + 1 by omega]; exact HR.out, by rw [HP.out]; simp, hAp3.below hBw3 (by omega) (by have := HN.out; omega), hAp3.boxed i0 (by omega), i1.set _, hAp3.boxed i2 (by omega), hAp3.boxed i3 (by omega), hJc _ _ _ hAp3 hJ3⟩
        case measure => simp [intOf, wj]; omega
      · gi_wp2
        refine bodyPost_ret (results_none rfl _ _ _) rfl ?_
        exact ⟨⟨_, rfl⟩, .inr ⟨pre ++ [(x, y)], ⟨rest', by rw [HP.out]; simp⟩, hJx3⟩⟩
    · have hdec : decide (j < (es.length : Int)) = false := decide_eq_false hlt
      have ej : es.drop j.toNat = [] := List.drop_eq_nil_of_le (by omega)
      rw [ej] at hs
      simp only [steps] at hs
      obtain rfl := Option.some.inj hs
      gi_wp2
      go_end0
      exact ⟨⟨_, rfl⟩, .inl (by first | exact hJs | exact ⟨pre, by simp [hp], hJs⟩ | (simpa [hp] using hJs))⟩
set_option maxHeartbeats 4000000 in
theorem cells_calls (A : Option Addr) (m c : Nat) (x lo hi : Int) (w : World) : Calls Try.prog 75 #[.slice A m c, .int .i64 x, .int .i64 lo, .int .i64 hi] w fun e w' => e = .returned (.func (.func 80) #[] #[.pointer (some ⟨w.heap.size, 0, none⟩), .pointer (some ⟨w.heap.size + 1, 0, none⟩), .pointer (some ⟨w.heap.size + 1 + 1, 0, none⟩), .pointer (some ⟨w.heap.size + 1 + 1 + 1, 0, none⟩)]) ∧ w' = (((w.alloc (.cells #[.slice A m c] 30)).alloc (.cells #[.int .i64 x] 3)).alloc (.cells #[.int .i64 lo] 3)).alloc (.cells #[.int .i64 hi] 3) := by
  go_enter Try.func75, Try.ntmps75
  go_wp2
  go_ret
  exact ⟨rfl, rfl⟩
/-- What is behind the last op. -/
def lb (x : Int) (ps : List (Int × Int)) : Int := ps.foldl (fun _ p => p.2) x
theorem lb_snoc (x : Int) (ps : List (Int × Int)) (p : Int × Int) : lb x (ps ++ [p]) = p.2 := by simp [lb]
noncomputable def batch_All.f (k : Nat) (l0 : List Ent) (a1 a2 a3 : Int) : Option Int := if l0.length < 1000000 then (steps k a2 a3 l0 a1).map (lb a1) else none
theorem Keeps4.trans {n B : Nat} {X Y Z : World} (h : Keeps4 n B X Y) (k : Keeps4 n B Y Z) : Keeps4 n B X Z := ⟨h.1.trans k.1, fun i h1 h2 => (k.2 i h1 h2).trans (h.2 i h1 h2)⟩
set_option maxRecDepth 100000 in
set_option maxHeartbeats 4000000 in
theorem batch_All.walk (k : Nat) (A : Option Addr) (c : Nat) (es : List Ent) (x lo hi : Int) (ps : List (Int × Int)) (w : World) (hC : EntC w A es) (hsm : es.length < 1000000) (hu : steps k lo hi es x = some ps) :
    CallsIn Fence.wide 9 Try.prog 57 #[.slice A es.length c, .int .i64 x, .int .i64 lo, .int .i64 hi] w fun e w' => e = .returned (.int .i64 (lb x ps)) ∧ Below w.heap.size w w' := by
  refine callsIn_of_wp_marks Try.func57 rfl trivial ?_ rfl
  simp only [Try.ntmps57, List.size_toArray, List.length_cons, List.length_nil, Nat.reduceAdd, Nat.reduceSub, Array.replicate_succ, Array.replicate_zero, List.push_toArray, List.append_toArray, List.nil_append, List.cons_append]
  have bx := Boxed.new w 3 (.int .i64 x)
  have hB0 : Below w.heap.size w (w.alloc (.cells #[.int .i64 x] 3)) := (Below.refl _ w).alloc (Nat.le_refl _) _
  gi_wp2
  refine ⟨trivial, (callsIn_wide.2 (cells_calls A es.length c x lo hi _)).mono ?_⟩
  rintro e w1 ⟨rfl, e1⟩
  cases e1
  simp only [World.size_alloc]
  have b0 := Boxed.new (w.alloc (.cells #[.int .i64 x] 3)) 30 (.slice A es.length c)
  have b1 := Boxed.new ((w.alloc (.cells #[.int .i64 x] 3)).alloc (.cells #[.slice A es.length c] 30)) 3 (.int .i64 x)
  have b2 := Boxed.new (((w.alloc (.cells #[.int .i64 x] 3)).alloc (.cells #[.slice A es.length c] 30)).alloc (.cells #[.int .i64 x] 3)) 3 (.int .i64 lo)
  have b3 := Boxed.new ((((w.alloc (.cells #[.int .i64 x] 3)).alloc (.cells #[.slice A es.length c] 30)).alloc (.cells #[.int .i64 x] 3)).alloc (.cells #[.int .i64 lo] 3)) 3 (.int .i64 hi)
  have bx4 := (((bx.alloc (.cells #[.slice A es.length c] 30)).alloc (.cells #[.int .i64 x] 3)).alloc (.cells #[.int .i64 lo] 3)).alloc (.cells #[.int .i64 hi] 3)
  have hB4 : Below w.heap.size w (((((w.alloc (.cells #[.int .i64 x] 3)).alloc (.cells #[.slice A es.length c] 30)).alloc (.cells #[.int .i64 x] 3)).alloc (.cells #[.int .i64 lo] 3)).alloc (.cells #[.int .i64 hi] 3)) := (((hB0.alloc (by simp) _).alloc (by simp; omega) _).alloc (by simp; omega) _).alloc (by simp; omega) _
  have a0 := ((b0.alloc (.cells #[.int .i64 x] 3)).alloc (.cells #[.int .i64 lo] 3)).alloc (.cells #[.int .i64 hi] 3)
  have a1 := (b1.alloc (.cells #[.int .i64 lo] 3)).alloc (.cells #[.int .i64 hi] 3)
  have a2 := b2.alloc (.cells #[.int .i64 hi] 3)
  obtain ⟨W4, hW4⟩ : ∃ W4, (((((w.alloc (.cells #[.int .i64 x] 3)).alloc (.cells #[.slice A es.length c] 30)).alloc (.cells #[.int .i64 x] 3)).alloc (.cells #[.int .i64 lo] 3)).alloc (.cells #[.int .i64 hi] 3)) = W4 := ⟨_, rfl⟩
  have hsz : W4.heap.size = w.heap.size + 5 := by rw [← hW4]; simp
  simp only [World.size_alloc] at b0 b1 b2 b3 a0 a1 a2
  rw [hW4] at bx4 hB4 a0 a1 a2 b3
  gi_wp2
  rw [hW4]
  refine range_own rfl (by omega) (gf := 80) (lb := #[.pointer (some ⟨w.heap.size + 1, 0, none⟩), .pointer (some ⟨w.heap.size + 1 + 1, 0, none⟩), .pointer (some ⟨w.heap.size + 1 + 1 + 1, 0, none⟩), .pointer (some ⟨w.heap.size + 1 + 1 + 1 + 1, 0, none⟩)]) rfl trivial (enters_of Try.func80 (by kernel_rfl) rfl) (encs := fun p : Int × Int => #[.int .i64 p.1, .int .i64 p.2]) (Kp := Keeps4 w.heap.size (w.heap.size + 1)) (S := fun ys => ys = ps) (Sp := fun pre => pre <+: ps) (N := ps.length) (Bx := w.heap.size + 1 + 1) (fun _ => rfl) (by omega) Keeps4.trans
    (fun A l o' hl => ⟨⟨rfl, rfl, rfl, by simp, fun k hk => World.putObj_heap_other (by omega)⟩, fun k h1 h2 => World.putObj_heap_other (by omega)⟩)
    (fun l J Jx W hW hJc hY h0 => cells_in 8 (by omega) l (w.heap.size + 1) w.heap.size (by omega) k lo hi x A c es w rfl hC ps hu hsm J Jx hJc hY W (hB4.trans (hW.mono (by omega))) ((hW.block _ a0.lt).trans a0) ((hW.block _ a1.lt).trans a1) ((hW.block _ a2.lt).trans a2) ((hW.block _ b3.lt).trans b3) h0)
    (fun (pre : List (Int × Int)) (W : World) => Boxed W w.heap.size 3 (.int .i64 (lb x pre)) ∧ Below w.heap.size w W)
    (fun _ _ _ => False)
    (fun s A B row hs hg hr => ⟨hs.1.kept hg (fun e => by have := (hr _ e.symm).1; omega), hs.2.grown hg hs.2.size (fun r e => by have := (hr r e).1; omega)⟩)
    (fun _ _ _ _ _ hs _ _ => hs)
    (fun s A A' hA hs => ⟨hA.boxed hs.1 (by omega), hA.below hs.2 (by omega) (Nat.le_refl _)⟩)
    ⟨bx4, hB4⟩
    (fun p => { tmps := #[.slice A es.length c, .int .i64 x, .int .i64 lo, .int .i64 hi, undef, .pointer (some ⟨w.heap.size, 0, none⟩), undef, undef, .int .i64 0, undef, .int .i64 p.2, .slice A es.length c, .int .i64 x, .int .i64 lo, .int .i64 hi, .func (.func 80) #[] #[.pointer (some ⟨w.heap.size + 1, 0, none⟩), .pointer (some ⟨w.heap.size + 1 + 1, 0, none⟩), .pointer (some ⟨w.heap.size + 1 + 1 + 1, 0, none⟩), .pointer (some ⟨w.heap.size + 1 + 1 + 1 + 1, 0, none⟩)], .int .i64 p.1, .int .i64 p.2, undef, undef], defers := [] }) ?assign ?body ?done ?stop
  case assign =>
    intro l p W K hK
    gi_wp2
    exact hK
  case body =>
    rintro l pre p W ⟨hx, hB⟩ hlt
    have hc := hx.cell
    have hf := hx.frozen
    gi_wp2
    exact ⟨(KeepsOthers.setCell _ _ _).from _, ⟨(Below.refl _ W).setCell (p := ⟨w.heap.size, 0, none⟩) (Nat.le_refl _) _, fun k h1 h2 => Below.heap_setCell W ⟨w.heap.size, 0, none⟩ _ k (by show k ≠ w.heap.size; omega)⟩, by rw [lb_snoc]; exact hx.set _, hB.setCell (p := ⟨w.heap.size, 0, none⟩) (Nat.le_refl _) _⟩
  case done =>
    rintro D ys W hD rfl ⟨hx, hB⟩ hK
    have hc := hx.cell
    gi_wp2
    refine ⟨by simp, .inl ⟨_, _, rfl, run_takeDeferred hK, ?_⟩⟩
    exact ⟨_, results_tmp rfl _ _ _, rfl, hB.trans (belowK_b (w := w) (Nat.le_refl _) W D _ _ (by omega) hK rfl rfl)⟩
  case stop =>
    rintro D c pre W _ _ h _
    exact h.elim
theorem batch_All.calls (k : Nat) (A0 : Option Addr) (c0 : Nat) (l0 : List (Ent)) (a1 : Int) (a2 : Int) (a3 : Int) (r : Int) (w : World) (hr0 : EntC w A0 l0) (hc0 : l0.length ≤ c0) (h : batch_All.f k l0 a1 a2 a3 = some r) :
    Calls Try.prog 57 #[.slice A0 l0.length c0, .int .i64 a1, .int .i64 a2, .int .i64 a3] w fun e w' => e = .returned (.int .i64 r) ∧ Below w.heap.size w w' := by
  unfold batch_All.f at h
  by_cases c : l0.length < 1000000
  · rw [if_pos c] at h
    obtain ⟨ps, hu, rfl⟩ := Option.map_eq_some_iff.mp h
    exact callsIn_wide.1 (batch_All.walk k A0 c0 l0 a1 a2 a3 ps w hr0 c hu)
  · rw [if_neg c] at h
    cases h

end
end Go.Proofs.YtjoebchkchoomaaS
