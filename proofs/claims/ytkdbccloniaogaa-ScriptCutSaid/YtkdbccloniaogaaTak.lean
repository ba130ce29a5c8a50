/- The method that takes a string's first byte off, walked by hand. Conditions: none. -/
import Derived.Below
import Derived.Deep.Draws
import Derived.Deep.AppendLies
import Derived.Maps.AppendAt
import Derived.OwnWalk
import Derived.Laws.BytesArg
import Derived.Laws.MakeOwn
import Derived.Laws.OwnMore
import Derived.Deep.OwnRows
import Derived.Tactics
import Derived.Lib.ConvBytes
import Derived.Laws.Slices
import Derived.WalkKit
import Derived.KernelRfl
import Derived.RowKit3
import Derived.Deep.LoopGhost
import Derived.Deep.QuietTactic
import Derived.BigQuiet
import Derived.WideLaws
import Derived.Deep.DeepCutAuto
import Derived.Deep.CutBlock
import Derived.Deep.RegionHeld3
import Derived.Laws.Rows
import Derived.Lib.AppendStr
import Derived.ArgAppend
import Derived.Laws.IdiomCopy
import Derived.OrdersHeld
import Derived.Laws.BitsLemmas
import Derived.RowKit
import Derived.Test.YtkdbccloniaogaaF0
import Derived.Test.YtkdbccloniaogaaSimPure
set_option linter.unusedVariables false
set_option linter.unusedSimpArgs false
namespace Go.Proofs.YtkdbccloniaogaaS
open Go Go.Proofs Go.RowKit
theorem setCell_row (w : World) (b T : Nat) (vs : Array Value) (v : Value) (h : w.heap[b]? = some (.cells vs T (0, 0))) (h0 : 0 < vs.size) : w.setCell ⟨b, 0, none⟩ v = w.setRow b (splice vs.toList 0 [v]).toArray := by
  have e : (splice vs.toList 0 [v]).toArray = vs.setIfInBounds 0 v := by
    apply Array.ext'
    have hl : 0 < vs.toList.length := by simpa using h0
    rw [Array.toList_setIfInBounds]
    match vs.toList, hl with
    | c :: l, _ => simp [splice]
  rw [e]
  unfold World.setCell World.setRow
  congr 1
  apply Array.ext_getElem?
  intro i
  simp only [Array.getElem?_modify]
  by_cases hi : b = i
  · subst hi
    simp [h]
  · simp [hi]
theorem get_byte (s : ByteArray) (hs : 0 < s.size) : s[0] = s.get! 0 := by
  show s.data[0] = s.data[0]!
  exact (getElem!_pos s.data 0 hs).symm
set_option maxHeartbeats 1000000 in
theorem tak_walk (w : World) (b T : Nat) (vs : Array Value) (s : ByteArray) (hr : w.heap[b]? = some (.cells vs T (0,0))) (hv : vs[0]? = some (.string s)) (hs : 0 < s.size) : Calls Try.prog 28 #[.pointer (some ⟨b,0,none⟩)] w fun e w' => e = .returned (.int .i64 ((s.get! 0).toNat : Int)) ∧ w' = w.setRow b (splice vs.toList 0 [.string (s.extract 1 s.size)]).toArray := by
  have hc : w.cell? ⟨b, 0, none⟩ = some (.string s) := by
    simp [World.cell?, hr, hv]
  have hnf : w.frozen? ⟨b, 0, none⟩ = false := by
    simp [World.frozen?, hr]
  have h0 : 0 < vs.size := by
    rcases Nat.eq_zero_or_pos vs.size with q | q
    · have : vs[0]? = none := by simp [q]
      rw [this] at hv; cases hv
    · exact q
  have hrow := setCell_row w b T vs (.string (s.extract 1 s.size)) hr h0
  go_enter Try.func28, Try.ntmps28
  go_wp2
  all_goals try (rename_i hx; rw [hnf] at hx; cases hx)
  go_ret
  refine ⟨?_, rfl⟩
  have hb : (s.get! 0).toNat < 256 := (s.get! 0).toNat_lt
  have e : wrap64 ((s[0].toNat : Nat) : Int) = ((s.get! 0).toNat : Int) := by
    rw [get_byte s hs]
    unfold wrap64
    omega
  rw [e]
  rfl
theorem tak_spec : TakSpec Try.prog 28 := fun w b T vs s h1 h2 h3 => tak_walk w b T vs s h1 h2 h3
def masksT : Nat → Nat → Option ((List Nat × List Nat) × (List Nat × List Nat)) := fun f r => match f, r with
  | 28, 1000000 => some (([], []), ([], []))
  | f, r => masks f r
noncomputable def E0t (N : Nat) : Env := ⟨Try.prog, fun _ => none, masksT, N⟩
theorem masks_plain (g : Nat) : masks g 1000000 = none := by
  unfold masks
  split <;> simp_all
theorem E0t_ok (N : Nat) : (E0t N).Ok := ⟨fun f o h => (by cases h), by kernel_rfl, fun g h => by
  have h' : (masksT g 1000000).isSome = true := h
  unfold masksT at h'
  split at h'
  · exact ⟨tak_spec, _, Try.func28, rfl⟩
  · rw [masks_plain] at h'
    cases h'⟩
end Go.Proofs.YtkdbccloniaogaaS
