/- batch.Priors, and what is known of both. Conditions: none. -/
import Derived.Below
import Derived.Deep.Draws
import Derived.Deep.AppendLies
import Derived.Maps.AppendAt
import Derived.OwnWalk
import Derived.Laws.BytesArg
import Derived.Laws.MakeOwn
import Derived.Laws.OwnMore
import Derived.Deep.OwnRows
import Derived.Tactics
import Derived.Lib.ConvBytes
import Derived.Laws.Slices
import Derived.WalkKit
import Derived.KernelRfl
import Derived.RowKit3
import Derived.Deep.LoopGhost
import Derived.Deep.QuietTactic
import Derived.BigQuiet
import Derived.WideLaws
import Derived.Deep.DeepCutAuto
import Derived.Deep.CutBlock
import Derived.Deep.RegionHeld3
import Derived.Laws.Rows
import Derived.Lib.AppendStr
import Derived.ArgAppend
import Derived.Laws.IdiomCopy
import Derived.OrdersHeld
import Derived.Laws.BitsLemmas
import Derived.RowKit
import Derived.Lib.SliceRun
import Derived.Test.YtahflgbdcnipnaaIt
set_option linter.unusedVariables false
set_option linter.unusedSimpArgs false
namespace Go.Proofs.YtahflgbdcnipnaaS
open Go Go.Proofs Go.RowKit
section
open Go.Shelf Go.Boxes
attribute [local go_sem] Oper.semAt_some
theorem own_weaken {w : World} {base base' : Nat} {e : TypeId} {size n : Nat} {v : Value} {xs : List Value} (h : w.ownsRow base e size v n xs) (hb : base' ≤ base) : w.ownsRow base' e size v n xs := by
  obtain ⟨h1, h2 | ⟨g, cap, cur, h3, h4, h5⟩⟩ := h
  · exact ⟨h1, .inl h2⟩
  · exact ⟨h1, .inr ⟨g, cap, cur, h3, Nat.le_trans hb h4, h5⟩⟩
theorem steps_len (k : Nat) (lo hi : Int) : ∀ (l : List Ent) (x : Int) (ps : List (Int × Int)), steps k lo hi l x = some ps → ps.length = l.length
  | [], _, ps, h => by obtain rfl := Option.some.inj h; rfl
  | e :: r, x, ps, h => by
    simp only [steps] at h
    obtain ⟨y, ha, h⟩ := Option.bind_eq_some_iff.mp h
    obtain ⟨z, hz, rfl⟩ := Option.map_eq_some_iff.mp h
    have := steps_len k lo hi r y.1 z hz
    simp [this]
theorem infoInt : (Try.prog.info? 3).map (fun i => (i.zero, i.size, i.bytes)) = some (some (.int .i64 0), 1, 8) := by kernel_rfl
set_option maxRecDepth 100000 in
set_option maxHeartbeats 4000000 in
theorem batch_Priors.walk (k : Nat) (A : Option Addr) (c : Nat) (es : List Ent) (x lo hi : Int) (ps : List (Int × Int)) (w : World) (hC : EntC w A es) (hsm : es.length < 1000000) (hu : steps k lo hi es x = some ps) :
    CallsIn Fence.wide 9 Try.prog 17 #[.slice A es.length c, .int .i64 x, .int .i64 lo, .int .i64 hi] w fun e w' => ∃ v, e = .returned v ∧ w'.ownsRow (w.heap.size + 5) 3 1 v ps.length (ps.map fun p => Value.int .i64 p.1) ∧ Below w.heap.size w w' := by
  obtain ⟨i0, hi0, hz0, hz1, hz2⟩ := info_parts infoInt
  have hpl := steps_len k lo hi es x ps hu
  refine callsIn_of_wp_marks Try.func17 rfl trivial ?_ rfl
  simp only [Try.ntmps17, List.size_toArray, List.length_cons, List.length_nil, Nat.reduceAdd, Nat.reduceSub, Array.replicate_succ, Array.replicate_zero, List.push_toArray, List.append_toArray, List.nil_append, List.cons_append]
  have bx := Boxed.new w 34 (.slice none 0 0)
  have hB0 : Below w.heap.size w (w.alloc (.cells #[.slice none 0 0] 34)) := (Below.refl _ w).alloc (Nat.le_refl _) _
  gi_wp2
  refine ⟨trivial, (callsIn_wide.2 (cells_calls A es.length c x lo hi _)).mono ?_⟩
  rintro e w1 ⟨rfl, e1⟩
  cases e1
  simp only [World.size_alloc]
  have b0 := Boxed.new (w.alloc (.cells #[.slice none 0 0] 34)) 22 (.slice A es.length c)
  have b1 := Boxed.new ((w.alloc (.cells #[.slice none 0 0] 34)).alloc (.cells #[.slice A es.length c] 22)) 3 (.int .i64 x)
  have b2 := Boxed.new (((w.alloc (.cells #[.slice none 0 0] 34)).alloc (.cells #[.slice A es.length c] 22)).alloc (.cells #[.int .i64 x] 3)) 3 (.int .i64 lo)
  have b3 := Boxed.new ((((w.alloc (.cells #[.slice none 0 0] 34)).alloc (.cells #[.slice A es.length c] 22)).alloc (.cells #[.int .i64 x] 3)).alloc (.cells #[.int .i64 lo] 3)) 3 (.int .i64 hi)
  have bx4 := (((bx.alloc (.cells #[.slice A es.length c] 22)).alloc (.cells #[.int .i64 x] 3)).alloc (.cells #[.int .i64 lo] 3)).alloc (.cells #[.int .i64 hi] 3)
  have hB4 : Below w.heap.size w (((((w.alloc (.cells #[.slice none 0 0] 34)).alloc (.cells #[.slice A es.length c] 22)).alloc (.cells #[.int .i64 x] 3)).alloc (.cells #[.int .i64 lo] 3)).alloc (.cells #[.int .i64 hi] 3)) := (((hB0.alloc (by simp) _).alloc (by simp; omega) _).alloc (by simp; omega) _).alloc (by simp; omega) _
  have a0 := ((b0.alloc (.cells #[.int .i64 x] 3)).alloc (.cells #[.int .i64 lo] 3)).alloc (.cells #[.int .i64 hi] 3)
  have a1 := (b1.alloc (.cells #[.int .i64 lo] 3)).alloc (.cells #[.int .i64 hi] 3)
  have a2 := b2.alloc (.cells #[.int .i64 hi] 3)
  obtain ⟨W4, hW4⟩ : ∃ W4, (((((w.alloc (.cells #[.slice none 0 0] 34)).alloc (.cells #[.slice A es.length c] 22)).alloc (.cells #[.int .i64 x] 3)).alloc (.cells #[.int .i64 lo] 3)).alloc (.cells #[.int .i64 hi] 3)) = W4 := ⟨_, rfl⟩
  have hsz : W4.heap.size = w.heap.size + 5 := by rw [← hW4]; simp
  simp only [World.size_alloc] at b0 b1 b2 b3 a0 a1 a2
  rw [hW4] at bx4 hB4 a0 a1 a2 b3
  gi_wp2
  rw [hW4]
  refine range_own rfl (by omega) (gf := 25) (lb := #[.pointer (some ⟨w.heap.size + 1, 0, none⟩), .pointer (some ⟨w.heap.size + 1 + 1, 0, none⟩), .pointer (some ⟨w.heap.size + 1 + 1 + 1, 0, none⟩), .pointer (some ⟨w.heap.size + 1 + 1 + 1 + 1, 0, none⟩)]) rfl trivial (enters_of Try.func25 (by kernel_rfl) rfl) (encs := fun p : Int × Int => #[.int .i64 p.1, .int .i64 p.2]) (Kp := Keeps4 w.heap.size (w.heap.size + 1)) (S := fun ys => ys = ps) (Sp := fun pre => pre <+: ps) (N := ps.length) (Bx := w.heap.size + 1 + 1) (fun _ => rfl) (by omega) Keeps4.trans
    (fun A l o' hl => ⟨⟨rfl, rfl, rfl, by simp, fun k hk => World.putObj_heap_other (by omega)⟩, fun k h1 h2 => World.putObj_heap_other (by omega)⟩)
    (fun l J Jx W hW hJc hY h0 => cells_in 8 (by omega) l (w.heap.size + 1) w.heap.size (by omega) k lo hi x A c es w rfl hC ps hu hsm J Jx hJc hY W (hB4.trans (hW.mono (by omega))) ((hW.block _ a0.lt).trans a0) ((hW.block _ a1.lt).trans a1) ((hW.block _ a2.lt).trans a2) ((hW.block _ b3.lt).trans b3) h0)
    (fun (pre : List (Int × Int)) (W : World) => (∃ v : Value, Boxed W w.heap.size 34 v ∧ W.ownsRow (w.heap.size + 5) 3 1 v pre.length (pre.map fun p => Value.int .i64 p.1) ∧ True) ∧ Below w.heap.size w W ∧ w.heap.size + 5 ≤ W.heap.size)
    (fun _ _ _ => False)
    (OwnFrom.and (Own.from (holdsRow_own (w.heap.size + 5) w.heap.size 34 3 1 (fun (pre : List (Int × Int)) => pre.length) (fun (pre : List (Int × Int)) => pre.map fun p => Value.int .i64 p.1) (fun (pre : List (Int × Int)) (v : Value) => True)) _) (fun s A B row hs hg hr => ⟨hs.1.grown hg hs.1.size (fun r e => by have := (hr r e).1; omega), Nat.le_trans hs.2 hg.size⟩))
    (fun _ _ _ _ _ hs _ _ => hs)
    ?cell ⟨⟨_, bx4, World.ownsRow_nil _ _ _ _, trivial⟩, hB4, by omega⟩
    (fun p => { tmps := #[.slice A es.length c, .int .i64 x, .int .i64 lo, .int .i64 hi, undef, undef, undef, undef, .pointer (some ⟨w.heap.size, 0, none⟩), .int .i64 p.1, .slice A es.length c, .int .i64 x, .int .i64 lo, .int .i64 hi, .func (.func 25) #[] #[.pointer (some ⟨w.heap.size + 1, 0, none⟩), .pointer (some ⟨w.heap.size + 1 + 1, 0, none⟩), .pointer (some ⟨w.heap.size + 1 + 1 + 1, 0, none⟩), .pointer (some ⟨w.heap.size + 1 + 1 + 1 + 1, 0, none⟩)], .int .i64 p.1, .int .i64 p.2, undef, undef, undef, undef, undef], defers := [] }) ?assign ?body ?done ?stop
  case cell =>
    rintro s A A' hA ⟨⟨u, hv, hrow, _⟩, hB, hs⟩
    refine ⟨⟨u, hA.boxed hv (by omega), hrow.kept hA.grown ?_, trivial⟩, hA.below hB (by omega) (Nat.le_refl _), Nat.le_trans hs hA.size⟩
    rcases hrow.2 with ⟨rfl, _⟩ | ⟨g, cap, cur, rfl, hb, _, _⟩
    · exact .inl rfl
    · exact .inr fun e => by simp [Value.ownBlock] at e; omega
  case assign =>
    intro l p W K hK
    gi_wp2
    exact hK
  case body =>
    rintro l pre p W ⟨⟨v, hv, hrow, _⟩, hB, hs⟩ hlt
    have hc := hv.cell
    have hown0 : ∀ k, k < w.heap.size + 5 → some k ≠ v.ownBlock := by
      intro k hk
      rcases hrow.2 with ⟨rfl, _⟩ | ⟨g, cap, cur, rfl, hb, _, _⟩
      · simp [Value.ownBlock]
      · intro e; simp [Value.ownBlock] at e; omega
    gi_wp2_with (gi_at_builtin; refine wpListIn_append_own _ rfl _ _ 34 rfl (w.heap.size + 5) 3 i0 (.int .i64 0) 1 8 Try.underlying34 hi0 hz0 hz1 hz2 rfl (by decide) _ _ _ rfl (hrow.alloc _) ⟨W.heap.size, 0, none⟩ 1 1 [.int .i64 p.1] rfl rfl (cell_one_new _ _ _) (by simp [Value.oneCell']) (by unfold maxLen; omega) (by omega) (by simp; omega) ?_; intro v' w1 hown' hgrow _; obtain ⟨g', cap', rfl⟩ := ownsRow_succ hown'; obtain ⟨hv1, hv2, hr2, hk2, hb2⟩ := hv.appended (n₀ := w.heap.size) (by decide) (own_weaken hrow (by omega)) (by omega) (Nat.le_refl _) (own_weaken hown' (by omega)) hgrow; have hc1 := hv1.cell; have hf1 := hv1.frozen)
    have hg' : w.heap.size + 5 ≤ g' := by
      rcases hown'.2 with ⟨e, _⟩ | ⟨g, cap, cur, e, hb, _, _⟩
      · cases e
      · cases e; exact hb
    have hk4 : ∀ k, w.heap.size + 1 ≤ k → k < w.heap.size + 1 + 4 → (w1.setCell ⟨w.heap.size, 0, none⟩ (.slice (some ⟨g', 0, none⟩) (pre.length + 1) cap')).heap[k]? = W.heap[k]? := fun k h1 h2 =>
      (Below.heap_setCell w1 ⟨w.heap.size, 0, none⟩ _ k (by show k ≠ w.heap.size; omega)).trans ((hgrow.block k (by simp; omega) (hown0 k (by omega))).trans (Below.heap_alloc _ _ _ (by omega)))
    exact ⟨hk2.from _, ⟨hb2, hk4⟩, ⟨_, hv2, by simpa using hown'.kept (grownBy_setCell' w1 w.heap.size _) (.inr (by simp [Value.ownBlock]; omega)), trivial⟩, hB.trans hb2, by have := hk2.size; omega⟩
  case done =>
    rintro D ys W hD rfl ⟨⟨v, hv, hrow, _⟩, hB, hs⟩ hK
    have hc := hv.cell
    have hf := hv.frozen
    have hne : some w.heap.size ≠ v.ownBlock ∧ ∃ A' n' c', v = .slice A' n' c' := by
      rcases hrow.2 with ⟨rfl, _⟩ | ⟨g, cap, cur, rfl, hb, _, _⟩
      · exact ⟨by simp [Value.ownBlock], _, _, _, rfl⟩
      · exact ⟨by simp [Value.ownBlock]; omega, _, _, _, rfl⟩
    obtain ⟨hne, A', n', c', rfl⟩ := hne
    gi_wp2
    have hK' := (KeepsOthers.setCell W ⟨w.heap.size, 0, none⟩ (.slice A' n' c')).same D _ hK rfl
    refine ⟨by simp, .inl ⟨_, _, rfl, run_takeDeferred hK', ?_⟩⟩
    have hc5 := cell_kept (World.cell?_setCell_same' W ⟨w.heap.size, 0, none⟩ (.slice A' n' c') (by rw [hc]; rfl)) (grownBy_putObj' _ D (.deferred none)) (fun r e => by cases e; exact ⟨_, hK', rfl⟩)
    refine ⟨.slice A' n' c', ?_, .slice A' n' c', rfl, ownsRow_putObj (hrow.kept (grownBy_setCell' W w.heap.size _) (.inr hne.symm)) _ hK' rfl, (hB.setCell (p := ⟨w.heap.size, 0, none⟩) (Nat.le_refl _) _).trans (belowK_b (w := w) (Nat.le_refl _) _ D _ _ (by omega) hK' rfl rfl)⟩
    simp [results, Try.f17, go_sem, hc5]
  case stop =>
    rintro D c pre W _ _ h _
    exact h.elim
end
def entOf (e : List PV) : Ent := ⟨pInt (e.headD PV.undef), ⟨pInt (e.tail.headD PV.undef), pInt (e.tail.tail.headD PV.undef)⟩⟩
theorem cell_lt {w : World} {a : Addr} {v : Value} (h : w.cell? a = some v) : a.block < w.heap.size := by
  unfold World.cell? at h
  split at h
  · rename_i hb
    rw [Array.getElem?_eq_some_iff] at hb
    exact hb.1
  · cases h
theorem vps3 {P : Program} {w : World} {S : Nat → Nat → Prop} {e : List PV} {us : List Value} (hc : cfs [.int .i64, .int .i64, .int .i64] e) (h : VPs P w S e us) : us = [.int .i64 (entOf e).f0, .int .i64 (entOf e).f1.f0, .int .i64 (entOf e).f1.f1] := by
  match e, hc with
  | [a, b, c], hc =>
    obtain ⟨⟨x, rfl⟩, ⟨y, rfl⟩, ⟨z, rfl⟩, _⟩ := hc
    simp only [VPs, VP] at h
    obtain ⟨_, _, rfl, rfl, _, _, rfl, rfl, _, _, rfl, rfl, rfl⟩ := h
    rfl
theorem kinds44 : kinds Try.prog 44 = [.int .i64, .int .i64, .int .i64] := by kernel_rfl
/-- Entries as data are entries that lie there. -/
theorem entC_of {w : World} {S : Nat → Nat → Prop} {A : Option Addr} {us : List Value} {xs : List (List PV)} (hcf : ∀ e ∈ xs, cfs (kinds Try.prog 44) e) (hl : Lies w S A us) (hs : VPss Try.prog w S xs us) : EntC w A (xs.map entOf) := by
  rw [kinds44] at hcf
  have hn : ∀ e ∈ xs, e.length = 3 := fun e he => (hcf e he).length
  have hlen := hs.length hn
  intro j hj
  have hj' : j < xs.length := by simpa using hj
  have hel : entAt (xs.map entOf) j = entOf xs[j] := by
    unfold entAt
    simp [List.getD_eq_getElem?_getD, hj']
  have hp := vps3 (hcf _ (List.getElem_mem hj')) (hs.get hn (i := j) (List.getElem?_eq_getElem hj'))
  have g : ∀ k, k < 3 → us[j * 3 + k]? = [Value.int .i64 (entOf xs[j]).f0, .int .i64 (entOf xs[j]).f1.f0, .int .i64 (entOf xs[j]).f1.f1][k]? := by
    intro k hk
    rw [← hp, List.getElem?_take, if_pos hk, List.getElem?_drop]
  rcases hl with hu | ⟨b, o, rfl, hr, _⟩
  · subst hu
    simp at hlen
    omega
  have c0 := hr (j * 3 + 0) _ ((g 0 (by omega)).trans rfl)
  have c1 := hr (j * 3 + 1) _ ((g 1 (by omega)).trans rfl)
  have c2 := hr (j * 3 + 2) _ ((g 2 (by omega)).trans rfl)
  rw [hel]
  have hlt : b < w.heap.size := cell_lt c0
  refine ⟨⟨b, o, none⟩, rfl, hlt, ?_, ?_, ?_⟩
  · rw [Addr.add_mid]; exact c0
  · rw [Addr.add_mid]; rw [← Nat.add_assoc] at c1; exact c1
  · rw [Addr.add_mid]; rw [← Nat.add_assoc] at c2; exact c2
theorem steps_all (k : Nat) (lo hi : Int) : ∀ (l : List Ent) (x : Int), ∃ ps, steps k lo hi l x = some ps
  | [], _ => ⟨[], rfl⟩
  | e :: r, x => by
    obtain ⟨ps, h⟩ := steps_all k lo hi r (ap e.f1.f0 e.f1.f1 x lo hi).y1
    refine ⟨(x, (ap e.f1.f0 e.f1.f1 x lo hi).y1) :: ps, ?_⟩
    show (some ((ap e.f1.f0 e.f1.f1 x lo hi).y1, (ap e.f1.f0 e.f1.f1 x lo hi).y2)).bind _ = _
    simp only [Option.bind_some, h, Option.map_some]
/-- What is ahead of each op, and behind it. -/
noncomputable def walkE (xs : List (List PV)) (x lo hi : Int) : List (Int × Int) := (steps 0 lo hi (xs.map entOf) x).getD []
theorem walkE_eq (xs : List (List PV)) (x lo hi : Int) : steps 0 lo hi (xs.map entOf) x = some (walkE xs x lo hi) := by
  obtain ⟨ps, h⟩ := steps_all 0 lo hi (xs.map entOf) x
  unfold walkE
  rw [h]
  rfl
theorem walkE_len (xs : List (List PV)) (x lo hi : Int) : (walkE xs x lo hi).length = xs.length := by
  rw [steps_len 0 lo hi _ _ _ (walkE_eq xs x lo hi), List.length_map]
noncomputable def allOf (xs : List (List PV)) (x lo hi : Int) : Int := lb x (walkE xs x lo hi)
noncomputable def priorsOf (xs : List (List PV)) (x lo hi : Int) : List (List PV) := (walkE xs x lo hi).map fun p => [PV.int .i64 p.1]
def s16 : List PK := [(false, [K.list 44]), (false, [K.int .i64]), (false, [K.int .i64]), (false, [K.int .i64])]
theorem open16 {w : World} {S : Nat → Nat → Prop} {ps : List PV} {vs : List Value} (hs : okPs s16 ps = true) (hv : VPs Try.prog w S ps vs) (hl : (pList (ps.headD PV.undef)).length < 1000000) :
    ∃ A cap, vs = [.slice A ((pList (ps.headD PV.undef)).map entOf).length cap, .int .i64 (pInt (ps.tail.headD PV.undef)), .int .i64 (pInt (ps.tail.tail.headD PV.undef)), .int .i64 (pInt (ps.tail.tail.tail.headD PV.undef))] ∧ EntC w A ((pList (ps.headD PV.undef)).map entOf) ∧ ((pList (ps.headD PV.undef)).map entOf).length ≤ cap := by
  have hc := okPs_can hs
  have hc2 : canPs s16 ps = [PV.list 44 (pList (ps.headD PV.undef)), PV.int .i64 (pInt (ps.tail.headD PV.undef)), PV.int .i64 (pInt (ps.tail.tail.headD PV.undef)), PV.int .i64 (pInt (ps.tail.tail.tail.headD PV.undef))] := by kernel_rfl
  rw [hc2] at hc
  rw [← hc] at hv
  simp only [VPs, VP] at hv
  obtain ⟨_, _, rfl, ⟨A, cap, us, rfl, h2, h3, h4, h5⟩, _, _, rfl, rfl, _, _, rfl, rfl, _, _, rfl, rfl, rfl⟩ := hv
  refine ⟨A, cap, ?_, entC_of h3 h4 h5, by simpa using h2⟩
  simp
noncomputable def f16O : Ora := ⟨fun ps => okPs s16 ps && decide ((pList (ps.headD PV.undef)).length < 1000000), fun ps => .pv (.int .i64 (allOf (pList (ps.headD PV.undef)) (pInt (ps.tail.headD PV.undef)) (pInt (ps.tail.tail.headD PV.undef)) (pInt (ps.tail.tail.tail.headD PV.undef))))⟩
theorem f16_spec : Spec Try.prog 16 f16O := by
  intro w S ps vs hS hv hp
  have hp' : (okPs s16 ps && decide ((pList (ps.headD PV.undef)).length < 1000000)) = true := hp
  simp only [Bool.and_eq_true, decide_eq_true_eq] at hp'
  obtain ⟨A, cap, rfl, hC, hcap⟩ := open16 hp'.1 hv hp'.2
  have hsm : ((pList (ps.headD PV.undef)).map entOf).length < 1000000 := by simpa using hp'.2
  refine (Go.callsIn_wide.1 (batch_All.walk 0 A cap ((pList (ps.headD PV.undef)).map entOf) (pInt (ps.tail.headD PV.undef)) (pInt (ps.tail.tail.headD PV.undef)) (pInt (ps.tail.tail.tail.headD PV.undef)) _ w hC hsm (walkE_eq _ _ _ _))).mono ?_
  rintro e w' ⟨rfl, hb⟩
  refine ⟨_, rfl, hb, ?_⟩
  show VP Try.prog w' S (.int .i64 _) _
  simp only [VP]
  rfl
theorem kinds3 : kinds Try.prog 3 = [.int .i64] := by kernel_rfl
theorem vpss_ints {P : Program} {w : World} {S : Nat → Nat → Prop} : ∀ (ps : List (Int × Int)), VPss P w S (ps.map fun p => [PV.int .i64 p.1]) (ps.map fun p => Value.int .i64 p.1)
  | [] => by simp [VPss]
  | p :: ps => by
    simp only [List.map_cons, VPss]
    exact ⟨[Value.int .i64 p.1], _, rfl, by simp [VPs, VP], vpss_ints ps⟩
noncomputable def f17O : Ora := ⟨fun ps => okPs s16 ps && decide ((pList (ps.headD PV.undef)).length < 1000000), fun ps => .fresh 3 (priorsOf (pList (ps.headD PV.undef)) (pInt (ps.tail.headD PV.undef)) (pInt (ps.tail.tail.headD PV.undef)) (pInt (ps.tail.tail.tail.headD PV.undef)))⟩
theorem f17_spec : Spec Try.prog 17 f17O := by
  intro w S ps vs hS hv hp
  have hp' : (okPs s16 ps && decide ((pList (ps.headD PV.undef)).length < 1000000)) = true := hp
  simp only [Bool.and_eq_true, decide_eq_true_eq] at hp'
  obtain ⟨A, cap, rfl, hC, hcap⟩ := open16 hp'.1 hv hp'.2
  have hsm : ((pList (ps.headD PV.undef)).map entOf).length < 1000000 := by simpa using hp'.2
  refine (Go.callsIn_wide.1 (batch_Priors.walk 0 A cap ((pList (ps.headD PV.undef)).map entOf) (pInt (ps.tail.headD PV.undef)) (pInt (ps.tail.tail.headD PV.undef)) (pInt (ps.tail.tail.tail.headD PV.undef)) _ w hC hsm (walkE_eq _ _ _ _))).mono ?_
  rintro e w' ⟨v, rfl, hown, hb⟩
  refine ⟨v, rfl, hb, ?_⟩
  show ResRel Try.prog S w w' (.fresh 3 (priorsOf _ _ _ _)) v
  unfold priorsOf
  generalize walkE (pList (ps.headD PV.undef)) (pInt (ps.tail.headD PV.undef)) (pInt (ps.tail.tail.headD PV.undef)) (pInt (ps.tail.tail.tail.headD PV.undef)) = qs at hown
  have hk : (kinds Try.prog 3).length = 1 := by kernel_rfl
  refine ⟨?_, by kernel_rfl, ?_⟩
  · intro e he
    rw [kinds3]
    obtain ⟨p, _, rfl⟩ := List.mem_map.1 he
    exact ⟨⟨_, rfl⟩, trivial⟩
  rcases hown.2 with ⟨rfl, hn⟩ | ⟨g, cap', cur, rfl, hb2, hg, h1, h2, h3, h4⟩
  · right
    have : qs = [] := List.length_eq_zero_iff.1 hn
    subst this
    exact ⟨rfl, none, rfl⟩
  · left
    refine ⟨g, cap', by rw [List.length_map], ⟨by omega, by rw [List.length_map]; exact h1, h2, cur, hg, by rw [hk]; exact h3, ?_⟩⟩
    rw [hk, List.length_map, h4]
    exact vpss_ints qs
end Go.Proofs.YtahflgbdcnipnaaS
