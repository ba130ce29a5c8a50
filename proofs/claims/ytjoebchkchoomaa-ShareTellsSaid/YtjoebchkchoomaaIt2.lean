/- batch.Priors, and what is known of both. Conditions: none. -/
import Derived.Below
import Derived.Deep.Draws
import Derived.Deep.AppendLies
import Derived.Maps.AppendAt
import Derived.OwnWalk
import Derived.Laws.BytesArg
import Derived.Laws.MakeOwn
import Derived.Laws.OwnMore
import Derived.Deep.OwnRows
import Derived.Tactics
import Derived.Lib.ConvBytes
import Derived.Laws.Slices
import Derived.WalkKit
import Derived.KernelRfl
import Derived.RowKit3
import Derived.Deep.LoopGhost
import Derived.Deep.QuietTactic
import Derived.BigQuiet
import Derived.WideLaws
import Derived.Deep.DeepCutAuto
import Derived.Deep.CutBlock
import Derived.Deep.RegionHeld3
import Derived.Laws.Rows
import Derived.Lib.AppendStr
import Derived.ArgAppend
import Derived.Laws.IdiomCopy
import Derived.OrdersHeld
import Derived.Laws.BitsLemmas
import Derived.RowKit
import Derived.Lib.SliceRun
import Derived.Test.YtjoebchkchoomaaIt
set_option linter.unusedVariables false
set_option linter.unusedSimpArgs false
set_option maxRecDepth 10000
namespace Go.Proofs.YtjoebchkchoomaaS
open Go Go.Proofs Go.RowKit
section
open Go.Shelf Go.Boxes
attribute [local go_sem] Oper.semAt_some
theorem own_weaken {w : World} {base base' : Nat} {e : TypeId} {size n : Nat} {v : Value} {xs : List Value} (h : w.ownsRow base e size v n xs) (hb : base' ≤ base) : w.ownsRow base' e size v n xs := by
  obtain ⟨h1, h2 | ⟨g, cap, cur, h3, h4, h5⟩⟩ := h
  · exact ⟨h1, .inl h2⟩
  · exact ⟨h1, .inr ⟨g, cap, cur, h3, Nat.le_trans hb h4, h5⟩⟩
theorem steps_len (k : Nat) (lo hi : Int) : ∀ (l : List Ent) (x : Int) (ps : List (Int × Int)), steps k lo hi l x = some ps → ps.length = l.length
  | [], _, ps, h => by obtain rfl := Option.some.inj h; rfl
  | e :: r, x, ps, h => by
    simp only [steps] at h
    obtain ⟨y, ha, h⟩ := Option.bind_eq_some_iff.mp h
    obtain ⟨z, hz, rfl⟩ := Option.map_eq_some_iff.mp h
    have := steps_len k lo hi r y.1 z hz
    simp [this]
end
def entOf (e : List PV) : Ent := ⟨pInt (e.headD PV.undef), ⟨pInt (e.tail.headD PV.undef), pInt (e.tail.tail.headD PV.undef)⟩⟩
theorem cell_lt {w : World} {a : Addr} {v : Value} (h : w.cell? a = some v) : a.block < w.heap.size := by
  unfold World.cell? at h
  split at h
  · rename_i hb
    rw [Array.getElem?_eq_some_iff] at hb
    exact hb.1
  · cases h
theorem vps3 {P : Program} {w : World} {S : Nat → Nat → Prop} {e : List PV} {us : List Value} (hc : cfs [.int .i64, .int .i64, .int .i64] e) (h : VPs P w S e us) : us = [.int .i64 (entOf e).f0, .int .i64 (entOf e).f1.f0, .int .i64 (entOf e).f1.f1] := by
  match e, hc with
  | [a, b, c], hc =>
    obtain ⟨⟨x, rfl⟩, ⟨y, rfl⟩, ⟨z, rfl⟩, _⟩ := hc
    simp only [VPs, VP] at h
    obtain ⟨_, _, rfl, rfl, _, _, rfl, rfl, _, _, rfl, rfl, rfl⟩ := h
    rfl
theorem kinds44 : kinds Try.prog 78 = [.int .i64, .int .i64, .int .i64] := by kernel_rfl
/-- Entries as data are entries that lie there. -/
theorem entC_of {w : World} {S : Nat → Nat → Prop} {A : Option Addr} {us : List Value} {xs : List (List PV)} (hcf : ∀ e ∈ xs, cfs (kinds Try.prog 78) e) (hl : Lies w S A us) (hs : VPss Try.prog w S xs us) : EntC w A (xs.map entOf) := by
  rw [kinds44] at hcf
  have hn : ∀ e ∈ xs, e.length = 3 := fun e he => (hcf e he).length
  have hlen := hs.length hn
  intro j hj
  have hj' : j < xs.length := by simpa using hj
  have hel : entAt (xs.map entOf) j = entOf xs[j] := by
    unfold entAt
    simp [List.getD_eq_getElem?_getD, hj']
  have hp := vps3 (hcf _ (List.getElem_mem hj')) (hs.get hn (i := j) (List.getElem?_eq_getElem hj'))
  have g : ∀ k, k < 3 → us[j * 3 + k]? = [Value.int .i64 (entOf xs[j]).f0, .int .i64 (entOf xs[j]).f1.f0, .int .i64 (entOf xs[j]).f1.f1][k]? := by
    intro k hk
    rw [← hp, List.getElem?_take, if_pos hk, List.getElem?_drop]
  rcases hl with hu | ⟨b, o, rfl, hr, _⟩
  · subst hu
    simp at hlen
    omega
  have c0 := hr (j * 3 + 0) _ ((g 0 (by omega)).trans rfl)
  have c1 := hr (j * 3 + 1) _ ((g 1 (by omega)).trans rfl)
  have c2 := hr (j * 3 + 2) _ ((g 2 (by omega)).trans rfl)
  rw [hel]
  have hlt : b < w.heap.size := cell_lt c0
  refine ⟨⟨b, o, none⟩, rfl, hlt, ?_, ?_, ?_⟩
  · rw [Addr.add_mid]; exact c0
  · rw [Addr.add_mid]; rw [← Nat.add_assoc] at c1; exact c1
  · rw [Addr.add_mid]; rw [← Nat.add_assoc] at c2; exact c2
theorem steps_all (k : Nat) (lo hi : Int) : ∀ (l : List Ent) (x : Int), ∃ ps, steps k lo hi l x = some ps
  | [], _ => ⟨[], rfl⟩
  | e :: r, x => by
    obtain ⟨ps, h⟩ := steps_all k lo hi r (ap e.f1.f0 e.f1.f1 x lo hi).y1
    refine ⟨(x, (ap e.f1.f0 e.f1.f1 x lo hi).y1) :: ps, ?_⟩
    show (some ((ap e.f1.f0 e.f1.f1 x lo hi).y1, (ap e.f1.f0 e.f1.f1 x lo hi).y2)).bind _ = _
    simp only [Option.bind_some, h, Option.map_some]
/-- What is ahead of each op, and behind it. -/
noncomputable def walkE (xs : List (List PV)) (x lo hi : Int) : List (Int × Int) := (steps 0 lo hi (xs.map entOf) x).getD []
theorem walkE_eq (xs : List (List PV)) (x lo hi : Int) : steps 0 lo hi (xs.map entOf) x = some (walkE xs x lo hi) := by
  obtain ⟨ps, h⟩ := steps_all 0 lo hi (xs.map entOf) x
  unfold walkE
  rw [h]
  rfl
theorem walkE_len (xs : List (List PV)) (x lo hi : Int) : (walkE xs x lo hi).length = xs.length := by
  rw [steps_len 0 lo hi _ _ _ (walkE_eq xs x lo hi), List.length_map]
noncomputable def allOf (xs : List (List PV)) (x lo hi : Int) : Int := lb x (walkE xs x lo hi)
noncomputable def priorsOf (xs : List (List PV)) (x lo hi : Int) : List (List PV) := (walkE xs x lo hi).map fun p => [PV.int .i64 p.1]
def s16 : List PK := [(false, [K.list 78]), (false, [K.int .i64]), (false, [K.int .i64]), (false, [K.int .i64])]
theorem open16 {w : World} {S : Nat → Nat → Prop} {ps : List PV} {vs : List Value} (hs : okPs s16 ps = true) (hv : VPs Try.prog w S ps vs) (hl : (pList (ps.headD PV.undef)).length < 1000000) :
    ∃ A cap, vs = [.slice A ((pList (ps.headD PV.undef)).map entOf).length cap, .int .i64 (pInt (ps.tail.headD PV.undef)), .int .i64 (pInt (ps.tail.tail.headD PV.undef)), .int .i64 (pInt (ps.tail.tail.tail.headD PV.undef))] ∧ EntC w A ((pList (ps.headD PV.undef)).map entOf) ∧ ((pList (ps.headD PV.undef)).map entOf).length ≤ cap := by
  have hc := okPs_can hs
  have hc2 : canPs s16 ps = [PV.list 78 (pList (ps.headD PV.undef)), PV.int .i64 (pInt (ps.tail.headD PV.undef)), PV.int .i64 (pInt (ps.tail.tail.headD PV.undef)), PV.int .i64 (pInt (ps.tail.tail.tail.headD PV.undef))] := by kernel_rfl
  rw [hc2] at hc
  rw [← hc] at hv
  simp only [VPs, VP] at hv
  obtain ⟨_, _, rfl, ⟨A, cap, us, rfl, h2, h3, h4, h5⟩, _, _, rfl, rfl, _, _, rfl, rfl, _, _, rfl, rfl, rfl⟩ := hv
  refine ⟨A, cap, ?_, entC_of h3 h4 h5, by simpa using h2⟩
  simp
noncomputable def f57O : Ora := ⟨fun ps => okPs s16 ps && decide ((pList (ps.headD PV.undef)).length < 1000000), fun ps => .pv (.int .i64 (allOf (pList (ps.headD PV.undef)) (pInt (ps.tail.headD PV.undef)) (pInt (ps.tail.tail.headD PV.undef)) (pInt (ps.tail.tail.tail.headD PV.undef))))⟩
theorem f57_spec : Spec Try.prog 57 f57O := by
  intro w S ps vs hS hv hp
  have hp' : (okPs s16 ps && decide ((pList (ps.headD PV.undef)).length < 1000000)) = true := hp
  simp only [Bool.and_eq_true, decide_eq_true_eq] at hp'
  obtain ⟨A, cap, rfl, hC, hcap⟩ := open16 hp'.1 hv hp'.2
  have hsm : ((pList (ps.headD PV.undef)).map entOf).length < 1000000 := by simpa using hp'.2
  refine (Go.callsIn_wide.1 (batch_All.walk 0 A cap ((pList (ps.headD PV.undef)).map entOf) (pInt (ps.tail.headD PV.undef)) (pInt (ps.tail.tail.headD PV.undef)) (pInt (ps.tail.tail.tail.headD PV.undef)) _ w hC hsm (walkE_eq _ _ _ _))).mono ?_
  rintro e w' ⟨rfl, hb⟩
  refine ⟨_, rfl, hb, ?_⟩
  show VP Try.prog w' S (.int .i64 _) _
  simp only [VP]
  rfl
end Go.Proofs.YtjoebchkchoomaaS
