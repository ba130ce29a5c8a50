/- slices.Grow of a nil slice: an empty one of its own. Conditions: the length. -/
import Derived.Below
import Derived.Deep.Draws
import Derived.Deep.AppendLies
import Derived.Maps.AppendAt
import Derived.OwnWalk
import Derived.Laws.BytesArg
import Derived.Laws.MakeOwn
import Derived.Laws.OwnMore
import Derived.Deep.OwnRows
import Derived.Tactics
import Derived.Lib.ConvBytes
import Derived.Laws.Slices
import Derived.WalkKit
import Derived.KernelRfl
import Derived.RowKit3
import Derived.Deep.LoopGhost
import Derived.Deep.QuietTactic
import Derived.BigQuiet
import Derived.WideLaws
import Derived.Deep.DeepCutAuto
import Derived.Deep.CutBlock
import Derived.Deep.RegionHeld3
import Derived.Laws.Rows
import Derived.Lib.AppendStr
import Derived.ArgAppend
import Derived.Laws.IdiomCopy
import Derived.OrdersHeld
import Derived.Laws.BitsLemmas
import Derived.RowKit
import Derived.Lib.SliceRun
import Derived.Lib.AppendZeros
import Derived.Test.YtahflgbdcnipnaaJ1
set_option linter.unusedVariables false
set_option linter.unusedSimpArgs false
namespace Go.Proofs.YtahflgbdcnipnaaS
open Go Go.Proofs Go.RowKit
theorem infoG : (Try.prog.info? 44).map (fun i => (i.zero, i.size, i.bytes)) = some (some (.agg #[(.int .i64 0), (.int .i64 0), (.int .i64 0)]), 3, 24) := by kernel_rfl
set_option maxHeartbeats 4000000 in
set_option maxRecDepth 100000 in
theorem grow_calls (S : Nat → Nat → Prop) (n : Nat) (h : n ≤ 1000000) (w : World) :
    Calls Try.prog 24 #[.slice none 0 0, .int .i64 (n : Int)] w fun e w' => ∃ v, e = .returned v ∧ Below w.heap.size w w' ∧ ResRel Try.prog S w w' (.fresh 44 []) v := by
  have hsz : (kinds Try.prog 44).length = sizeT Try.prog 44 := by kernel_rfl
  have hlt : decide ((n : Int) < 0) = false := decide_eq_false (by omega)
  have hw0 : IntKind.i64.wrap (n : Int) = n := wrap_small (by omega) (by omega)
  by_cases hp : 0 < n
  · have hgt : decide ((0 : Int) < (n : Int)) = true := decide_eq_true (by omega)
    obtain ⟨i0, hi0, hz0, hz1, hz2⟩ := info_parts infoG
    have heq := fun w : World => Lib.run_append_nil_zeros (P := Try.prog) w 22 3 22 44 i0 _ .i64 .i64 Try.underlying22 Try.underlying3 hi0 hz0 n hp (by rw [hz1]; decide) (by omega) (by rw [hz2]; omega)
    go_enter Try.func24, Try.ntmps24
    have hb24 : Try.t44.bytes = 24 := rfl
    have hns : Builtin.nextslicecap n 0 = n := nextslicecap_zero hp
    go_wp2
    go_ret
    have hcap : (Question.appendCap n 0 44).cut (w.tape w.drawn (Question.appendCap n 0 44)) = grownCap w n 0 44 := rfl
    have hge := grownCap_ge w n 0 44
    have hle := grownCap_le_maxLen w n 0 44 (show n ≤ maxLen by unfold maxLen; omega)
    rw [hcap]
    generalize grownCap w n 0 44 = cap at hge hle
    have hk : (kinds Try.prog 44).length = 3 := by kernel_rfl
    refine ⟨_, rfl, ?_, (fun e he => by cases he), hsz, .inl ⟨w.heap.size, cap, rfl, ⟨Nat.le_refl _, Nat.zero_le _, hle, _, heap_alloc_new _ _, ?_, ?_⟩⟩⟩
    · exact ((Below.refl w.heap.size w).alloc (Nat.le_refl _) _).drew
    · rw [hk]
      simp [Builtin.zeroCells]
      omega
    · simp [VPss]
  · have hgt : decide ((0 : Int) < (n : Int)) = false := decide_eq_false (by omega)
    obtain rfl : n = 0 := by omega
    go_enter Try.func24, Try.ntmps24
    go_wp2
    go_ret
    exact ⟨_, rfl, Below.refl _ _, (fun e he => by cases he), hsz, .inr ⟨rfl, none, rfl⟩⟩
end Go.Proofs.YtahflgbdcnipnaaS
