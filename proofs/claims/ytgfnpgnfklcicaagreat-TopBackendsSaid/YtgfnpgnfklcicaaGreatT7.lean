/- Part 7 of what the proof of TopBackends leans on. Conditions: none. -/
import Derived.Test.YtgfnpgnfklcicaaGreatT6
import Derived.Lib.QuietBelowIn
import Derived.TacticsIn
set_option linter.unusedSimpArgs false
set_option linter.unusedVariables false
namespace Go.Boxes
open Go.RowKit Go.Shelf
theorem qzP {α : Type} {F : Fence} {n : Nat} {P : Program} {g : Operand} {ps : Array Tmp} {assign body : Code} {Q : Exit → Act → World → Prop} {a : Act} {w : World}
 (hro : F.round = none) (h1 : 1 ≤ n) {gf : Nat} {lb : Array Value} (hg : a.eval g = .func (.func gf) #[] lb) (hFg : F.fn gf) (eg : ∀ args w, (callFunc gf args).run P w = .ok (.enter gf args) w)
 {encs : α → Array Value} {Kp : World → World → Prop} {S Sp : List α → Prop} {N Bx : Nat} (hps : ∀ x, (encs x).size = ps.size) (hBx : Bx < w.heap.size)
 (hKt : ∀ {A B C : World}, Kp A B → Kp B C → Kp A C) (hKb : ∀ (A : World) (l : Nat) (o' : Obj), w.heap.size ≤ l → Kp A (A.putObj l o'))
 (hseq : ∀ (l : Nat) (J Jx : List α → World → Prop) (W : World), Below w.heap.size w W → (∀ s A A', Apart Bx A A' → J s A → J s A') →
   (∀ pre x W1, J pre W1 → pre.length < N → YieldAt F (n - 1 - 1) P l (encs x) W1 fun e W' => (e = .returned (.bool true) ∧ J (pre ++ [x]) W' ∧ Kp W1 W') ∨ (e = .returned (.bool false) ∧ Jx (pre ++ [x]) W')) →
   J [] W → CallsIn F (n - 1) P gf (#[.func (.yield l) #[] #[]] ++ lb) W fun e W' => (∃ v, e = .returned v) ∧ ((∃ xs, S xs ∧ J xs W') ∨ (∃ pre, Sp pre ∧ Jx pre W')))
 (I : List α → World → Prop) (Ix : Code → List α → World → Prop) (hI : OwnFrom w.heap.size I) (hIx : ∀ c, OwnFrom w.heap.size (Ix c)) (hIc : ∀ s A A', Apart Bx A A' → I s A → I s A') (h0 : I [] w) (I2 : (List α × α) × Act → World → Prop) (hI2 : OwnFrom w.heap.size I2) (hKm : ∀ A A' : World, w.heap.size ≤ A.heap.size → Below A.heap.size A A' → Kp A A')
 (hassign : ∀ (l : Nat) (pre : List α) (x : α) (W : World) (K : Act → World → Prop), I pre W → pre.length < N → (∀ a' W', I2 ((pre, x), a') W' → Below W.heap.size W W' → K a' W') →
   assign.wpIn (F.inRound l) (n - 1 - 1) P (Exit.then K (fun _ _ _ => False)) { tmps := (ps.zip (encs x)).foldl (fun t (p, v) => t.setIfInBounds p v) a.tmps, defers := [] } W)
 (hbody : ∀ (l : Nat) (pre : List α) (x : α) (a' : Act) (W : World), I2 ((pre, x), a') W → pre.length < N → body.wpIn (F.inRound l) (n - 1 - 1) P (ownPostG w.heap.size Kp I Ix (pre ++ [x]) W) a' W)
 (hdone : ∀ (D : Nat) (xs : List α) (W : World), w.heap.size ≤ D → S xs → I xs W → W.heap[D]? = some (.deferred (some [])) → Q .normal { a with defers := { target := .collected D, args := #[] } :: a.defers } W)
 (hstop : ∀ (D : Nat) (c : Code) (pre : List α) (W : World), w.heap.size ≤ D → Sp pre → Ix c pre W → W.heap[D]? = some (.deferred (some [])) → c.wpIn F n P Q { a with defers := { target := .collected D, args := #[] } :: a.defers } W) :
 (Code.rangeFunc g ps assign body).wpIn F n P Q a w := by
 refine wpIn_rangeFunc fun fn hfn => ?_
 rw [hro]
 let R : LoopState → Option Code → Obj := fun st pe => .loop { state := st, pending := pe, fn, tmps := a.tmps, params := ps, assign, body, defers := w.heap.size }
 let B := w.heap.size
 obtain ⟨W1, hW1⟩ : ∃ W1, (w.alloc (.deferred (some []))).alloc (R .ready none) = W1 := ⟨_, rfl⟩
 have hL1 : W1.heap[B + 1]? = some (R .ready none) := by
  have := World.alloc_heap_new (w.alloc (.deferred (some []))) (R .ready none)
  rw [World.size_alloc] at this
  rw [← hW1]; exact this
 have hK1 : W1.heap[B]? = some (.deferred (some [])) := by
  rw [← hW1]; exact (Below.heap_alloc _ _ _ (by simp [B])).trans (World.alloc_heap_new w _)
 have turn : ∀ (A : World) (o' : Obj), Kp A (A.putObj (B + 1) o') := fun A o' => hKb A (B + 1) o' (by simp [B])
 have lt_ : ∀ {A : World} {k : Nat} {o : Obj}, A.heap[k]? = some o → k < A.heap.size := fun h => (Array.getElem?_eq_some_iff.1 h).1
 refine ⟨B + 1, [{ target := .collected B, args := #[] }], W1, { target := .fn (.func gf) lb, args := #[.func (.yield (B + 1)) #[] #[]] }, W1, gf, #[.func (.yield (B + 1)) #[] #[]] ++ lb, W1, ?_, ?_, ?_, ?_, fun _ => h1, ?_⟩
 · rw [← hW1]; exact run_enterLoop_outer _ _ _ _ _
 · simp only [resolve, hg]
   simp [go_sem]
 · intro f' hf'; simp [Target.leads] at hf'; subst hf'; exact hFg
 · simp [invoke, go_sem, eg]
 · refine (hseq (B + 1) (fun pre W => I pre W ∧ W.heap[B + 1]? = some (R .ready none) ∧ W.heap[B]? = some (.deferred (some [])))
    (fun pre W => ∃ c, Ix c pre W ∧ W.heap[B + 1]? = some (R .done (some c)) ∧ W.heap[B]? = some (.deferred (some []))) W1 ?_ ?_ ?_ ⟨?_, hL1, hK1⟩).mono ?_
   · rw [← hW1]; exact ((Below.refl _ w).alloc (Nat.le_refl _) _).alloc (by simp) _
   · rintro s A A' hA ⟨hi, hl, hk⟩
     exact ⟨hIc s A A' hA hi, (hA.block _ (lt_ hl) (by simp only [B]; omega)).trans hl, (hA.block _ (lt_ hk) (by simp only [B]; omega)).trans hk⟩
   · rintro pre x W ⟨hi, hl, hk⟩ hlen
     refine ⟨fn, _, assign, body, run_yield (P := P) (args := encs x) hl (hps x), roundIn_of_wpIn hfn (hassign _ pre x W _ hi hlen fun a' W' hi2 hbw => ?_)⟩
     have hsW : w.heap.size ≤ W.heap.size := Nat.le_of_lt (lt_ hk)
     have hl := (hbw.block _ (lt_ hl)).trans hl
     have hk := (hbw.block _ (lt_ hk)).trans hk
     refine ⟨_, run_beginRound hl rfl, ?_⟩
     have hl2 : (W'.putObj (B + 1) (R .busy none)).heap[B + 1]? = some (R .busy none) := World.putObj_heap_same (lt_ hl)
     have hk2 : (W'.putObj (B + 1) (R .busy none)).heap[B]? = some (.deferred (some [])) := (World.putObj_heap_other (by omega)).trans hk
     have fin : ∀ (jump : Option Code) (W3 : World), KeepsFrom B (W'.putObj (B + 1) (R .busy none)) W3 →
      (Instr.endRound (B + 1) jump).run P W3 = .ok (.bool jump.isNone) (W3.putObj (B + 1) (R (if jump.isNone then .ready else .done) jump)) ∧ W3.heap[B + 1]? = some (R .busy none) ∧
      (W3.putObj (B + 1) (R (if jump.isNone then .ready else .done) jump)).heap[B + 1]? = some (R (if jump.isNone then .ready else .done) jump) ∧
      (W3.putObj (B + 1) (R (if jump.isNone then .ready else .done) jump)).heap[B]? = some (.deferred (some [])) := fun jump W3 hk3 => by
      have hl3 := hk3.same _ _ (by omega) hl2 rfl
      exact ⟨run_endRound (P := P) jump hl3, hl3, World.putObj_heap_same (lt_ hl3), (World.putObj_heap_other (by omega)).trans (hk3.same _ _ (Nat.le_refl _) hk2 rfl)⟩
     refine wpIn_mono (hbody _ pre x a' _ (hI2.putObj _ hi2 (by simp [B]) hl rfl) hlen) ?_
     rintro e a3 W3 hp
     cases e with
     | normal =>
       obtain ⟨hk3, hkp3, hi3⟩ := hp
       obtain ⟨hr, hl3, hl4, hk4⟩ := fin none W3 hk3
       exact ⟨_, _, hr, .inl ⟨rfl, ⟨hI.putObj _ hi3 (by simp [B]) hl3 rfl, hl4, hk4⟩, hKt (hKt (hKt (hKm _ _ hsW hbw) (turn _ _)) hkp3) (turn _ _)⟩⟩
     | ret =>
       obtain ⟨hk3, hi3⟩ := hp
       obtain ⟨hr, hl3, hl4, hk4⟩ := fin (some .ret) W3 hk3
       exact ⟨_, _, hr, .inr ⟨rfl, .ret, (hIx _).putObj _ hi3 (by simp [B]) hl3 rfl, hl4, hk4⟩⟩
     | exit id =>
       obtain ⟨hk3, hi3⟩ := hp
       obtain ⟨hr, hl3, hl4, hk4⟩ := fin (some (.exit id)) W3 hk3
       exact ⟨_, _, hr, .inr ⟨rfl, .exit id, (hIx _).putObj _ hi3 (by simp [B]) hl3 rfl, hl4, hk4⟩⟩
     | goto t =>
       obtain ⟨hk3, hi3⟩ := hp
       obtain ⟨hr, hl3, hl4, hk4⟩ := fin (some (.goto t)) W3 hk3
       exact ⟨_, _, hr, .inr ⟨rfl, .goto t, (hIx _).putObj _ hi3 (by simp [B]) hl3 rfl, hl4, hk4⟩⟩
     | panic ch => exact hp.elim
     | outgrown => exact hp.elim
   · rw [← hW1]; exact hI.alloc _ (hI.alloc _ h0)
   · rintro e W2 ⟨⟨v, rfl⟩, (⟨xs, hS, hi, hl, hk⟩ | ⟨pre, hSp, c, hi, hl, hk⟩)⟩
     · exact ⟨none, _, run_endLoop (P := P) hl (by simp), hdone _ xs _ (Nat.le_refl _) hS (hI.putObj _ hi (by simp [B]) hl rfl) ((World.putObj_heap_other (by omega)).trans hk)⟩
     · exact ⟨some c, _, run_endLoop (P := P) hl (by simp), hstop _ c pre _ (Nat.le_refl _) hSp ((hIx c).putObj _ hi (by simp [B]) hl rfl) ((World.putObj_heap_other (by omega)).trans hk)⟩
theorem J3 {α : Type} {F : Fence} {n : Nat} {P : Program} {g : Operand} {ps : Array Tmp} {assign body : Code} {Q : Exit → Act → World → Prop} {a : Act} {w : World}
 (hro : F.round = none) (h1 : 1 ≤ n) {gf : Nat} {lb : Array Value} (hg : a.eval g = .func (.func gf) #[] lb) (hFg : F.fn gf) (eg : ∀ args w, (callFunc gf args).run P w = .ok (.enter gf args) w)
 {encs : α → Array Value} {Kp : World → World → Prop} {S Sp : List α → Prop} {N : Nat} (hps : ∀ x, (encs x).size = ps.size)
 (hKt : ∀ {A B C : World}, Kp A B → Kp B C → Kp A C) (hKb : ∀ (A : World) (l : Nat) (o' : Obj), w.heap.size ≤ l → Kp A (A.putObj l o'))
 (hseq : ∀ (l : Nat) (J Jx : List α → World → Prop) (W : World), Below w.heap.size w W → (∀ s A A', Below A.heap.size A A' → J s A → J s A') →
   (∀ pre x W1, J pre W1 → pre.length < N → YieldAt F (n - 1 - 1) P l (encs x) W1 fun e W' => (e = .returned (.bool true) ∧ J (pre ++ [x]) W' ∧ Kp W1 W') ∨ (e = .returned (.bool false) ∧ Jx (pre ++ [x]) W')) →
   J [] W → CallsIn F (n - 1) P gf (#[.func (.yield l) #[] #[]] ++ lb) W fun e W' => (∃ v, e = .returned v) ∧ ((∃ xs, S xs ∧ J xs W') ∨ (∃ pre, Sp pre ∧ Jx pre W')))
 (I : List α → World → Prop) (Ix : Code → List α → World → Prop) (hI : OwnFrom w.heap.size I) (hIx : ∀ c, OwnFrom w.heap.size (Ix c)) (hIc : ∀ s A A', Below A.heap.size A A' → I s A → I s A') (h0 : I [] w) (I2 : (List α × α) × Act → World → Prop) (hI2 : OwnFrom w.heap.size I2) (hKm : ∀ A A' : World, w.heap.size ≤ A.heap.size → Below A.heap.size A A' → Kp A A')
 (hassign : ∀ (l : Nat) (pre : List α) (x : α) (W : World) (K : Act → World → Prop), I pre W → pre.length < N → (∀ a' W', I2 ((pre, x), a') W' → Below W.heap.size W W' → K a' W') →
   assign.wpIn (F.inRound l) (n - 1 - 1) P (Exit.then K (fun _ _ _ => False)) { tmps := (ps.zip (encs x)).foldl (fun t (p, v) => t.setIfInBounds p v) a.tmps, defers := [] } W)
 (hbody : ∀ (l : Nat) (pre : List α) (x : α) (a' : Act) (W : World), I2 ((pre, x), a') W → pre.length < N → body.wpIn (F.inRound l) (n - 1 - 1) P (ownPostG w.heap.size Kp I Ix (pre ++ [x]) W) a' W)
 (hdone : ∀ (D : Nat) (xs : List α) (W : World), w.heap.size ≤ D → S xs → I xs W → W.heap[D]? = some (.deferred (some [])) → Q .normal { a with defers := { target := .collected D, args := #[] } :: a.defers } W)
 (hstop : ∀ (D : Nat) (c : Code) (pre : List α) (W : World), w.heap.size ≤ D → Sp pre → Ix c pre W → W.heap[D]? = some (.deferred (some [])) → c.wpIn F n P Q { a with defers := { target := .collected D, args := #[] } :: a.defers } W) :
 (Code.rangeFunc g ps assign body).wpIn F n P Q a w := by
 refine wpIn_rangeFunc fun fn hfn => ?_
 rw [hro]
 let R : LoopState → Option Code → Obj := fun st pe => .loop { state := st, pending := pe, fn, tmps := a.tmps, params := ps, assign, body, defers := w.heap.size }
 let B := w.heap.size
 obtain ⟨W1, hW1⟩ : ∃ W1, (w.alloc (.deferred (some []))).alloc (R .ready none) = W1 := ⟨_, rfl⟩
 have hL1 : W1.heap[B + 1]? = some (R .ready none) := by
  have := World.alloc_heap_new (w.alloc (.deferred (some []))) (R .ready none)
  rw [World.size_alloc] at this
  rw [← hW1]; exact this
 have hK1 : W1.heap[B]? = some (.deferred (some [])) := by
  rw [← hW1]; exact (Below.heap_alloc _ _ _ (by simp [B])).trans (World.alloc_heap_new w _)
 have turn : ∀ (A : World) (o' : Obj), Kp A (A.putObj (B + 1) o') := fun A o' => hKb A (B + 1) o' (by simp [B])
 have lt_ : ∀ {A : World} {k : Nat} {o : Obj}, A.heap[k]? = some o → k < A.heap.size := fun h => (Array.getElem?_eq_some_iff.1 h).1
 refine ⟨B + 1, [{ target := .collected B, args := #[] }], W1, { target := .fn (.func gf) lb, args := #[.func (.yield (B + 1)) #[] #[]] }, W1, gf, #[.func (.yield (B + 1)) #[] #[]] ++ lb, W1, ?_, ?_, ?_, ?_, fun _ => h1, ?_⟩
 · rw [← hW1]; exact run_enterLoop_outer _ _ _ _ _
 · simp only [resolve, hg]
   simp [go_sem]
 · intro f' hf'; simp [Target.leads] at hf'; subst hf'; exact hFg
 · simp [invoke, go_sem, eg]
 · refine (hseq (B + 1) (fun pre W => I pre W ∧ W.heap[B + 1]? = some (R .ready none) ∧ W.heap[B]? = some (.deferred (some [])))
    (fun pre W => ∃ c, Ix c pre W ∧ W.heap[B + 1]? = some (R .done (some c)) ∧ W.heap[B]? = some (.deferred (some []))) W1 ?_ ?_ ?_ ⟨?_, hL1, hK1⟩).mono ?_
   · rw [← hW1]; exact ((Below.refl _ w).alloc (Nat.le_refl _) _).alloc (by simp) _
   · rintro s A A' hA ⟨hi, hl, hk⟩
     exact ⟨hIc s A A' hA hi, (hA.block _ (lt_ hl)).trans hl, (hA.block _ (lt_ hk)).trans hk⟩
   · rintro pre x W ⟨hi, hl, hk⟩ hlen
     refine ⟨fn, _, assign, body, run_yield (P := P) (args := encs x) hl (hps x), roundIn_of_wpIn hfn (hassign _ pre x W _ hi hlen fun a' W' hi2 hbw => ?_)⟩
     have hsW : w.heap.size ≤ W.heap.size := Nat.le_of_lt (lt_ hk)
     have hl := (hbw.block _ (lt_ hl)).trans hl
     have hk := (hbw.block _ (lt_ hk)).trans hk
     refine ⟨_, run_beginRound hl rfl, ?_⟩
     have hl2 : (W'.putObj (B + 1) (R .busy none)).heap[B + 1]? = some (R .busy none) := World.putObj_heap_same (lt_ hl)
     have hk2 : (W'.putObj (B + 1) (R .busy none)).heap[B]? = some (.deferred (some [])) := (World.putObj_heap_other (by omega)).trans hk
     have fin : ∀ (jump : Option Code) (W3 : World), KeepsFrom B (W'.putObj (B + 1) (R .busy none)) W3 →
      (Instr.endRound (B + 1) jump).run P W3 = .ok (.bool jump.isNone) (W3.putObj (B + 1) (R (if jump.isNone then .ready else .done) jump)) ∧ W3.heap[B + 1]? = some (R .busy none) ∧
      (W3.putObj (B + 1) (R (if jump.isNone then .ready else .done) jump)).heap[B + 1]? = some (R (if jump.isNone then .ready else .done) jump) ∧
      (W3.putObj (B + 1) (R (if jump.isNone then .ready else .done) jump)).heap[B]? = some (.deferred (some [])) := fun jump W3 hk3 => by
      have hl3 := hk3.same _ _ (by omega) hl2 rfl
      exact ⟨run_endRound (P := P) jump hl3, hl3, World.putObj_heap_same (lt_ hl3), (World.putObj_heap_other (by omega)).trans (hk3.same _ _ (Nat.le_refl _) hk2 rfl)⟩
     refine wpIn_mono (hbody _ pre x a' _ (hI2.putObj _ hi2 (by simp [B]) hl rfl) hlen) ?_
     rintro e a3 W3 hp
     cases e with
     | normal =>
       obtain ⟨hk3, hkp3, hi3⟩ := hp
       obtain ⟨hr, hl3, hl4, hk4⟩ := fin none W3 hk3
       exact ⟨_, _, hr, .inl ⟨rfl, ⟨hI.putObj _ hi3 (by simp [B]) hl3 rfl, hl4, hk4⟩, hKt (hKt (hKt (hKm _ _ hsW hbw) (turn _ _)) hkp3) (turn _ _)⟩⟩
     | ret =>
       obtain ⟨hk3, hi3⟩ := hp
       obtain ⟨hr, hl3, hl4, hk4⟩ := fin (some .ret) W3 hk3
       exact ⟨_, _, hr, .inr ⟨rfl, .ret, (hIx _).putObj _ hi3 (by simp [B]) hl3 rfl, hl4, hk4⟩⟩
     | exit id =>
       obtain ⟨hk3, hi3⟩ := hp
       obtain ⟨hr, hl3, hl4, hk4⟩ := fin (some (.exit id)) W3 hk3
       exact ⟨_, _, hr, .inr ⟨rfl, .exit id, (hIx _).putObj _ hi3 (by simp [B]) hl3 rfl, hl4, hk4⟩⟩
     | goto t =>
       obtain ⟨hk3, hi3⟩ := hp
       obtain ⟨hr, hl3, hl4, hk4⟩ := fin (some (.goto t)) W3 hk3
       exact ⟨_, _, hr, .inr ⟨rfl, .goto t, (hIx _).putObj _ hi3 (by simp [B]) hl3 rfl, hl4, hk4⟩⟩
     | panic ch => exact hp.elim
     | outgrown => exact hp.elim
   · rw [← hW1]; exact hI.alloc _ (hI.alloc _ h0)
   · rintro e W2 ⟨⟨v, rfl⟩, (⟨xs, hS, hi, hl, hk⟩ | ⟨pre, hSp, c, hi, hl, hk⟩)⟩
     · exact ⟨none, _, run_endLoop (P := P) hl (by simp), hdone _ xs _ (Nat.le_refl _) hS (hI.putObj _ hi (by simp [B]) hl rfl) ((World.putObj_heap_other (by omega)).trans hk)⟩
     · exact ⟨some c, _, run_endLoop (P := P) hl (by simp), hstop _ c pre _ (Nat.le_refl _) hSp ((hIx c).putObj _ hi (by simp [B]) hl rfl) ((World.putObj_heap_other (by omega)).trans hk)⟩
end Go.Boxes
set_option maxRecDepth 10000
namespace Go.Proofs.YtgfnpgnfklcicaaGreatS
open Go Go.Proofs Go.RowKit
section
open Go.Shelf Go.Boxes
attribute [local go_sem] Oper.semAt_some
structure Mk where
 (f0 : Int) (f1 : Int) (f2 : Int) (f3 : Int) (f4 : Int) (f5 : Int)
def Mk.arr (x : Mk) : Array Value := #[.int .i64 x.f0, .int .i64 x.f1, .int .i64 x.f2, .int .i64 x.f3, .int .i64 x.f4, .int .i64 x.f5]
def MkAt (es : List Mk) (j : Int) : Mk := es.getD j.toNat ⟨0, 0, 0, 0, 0, 0⟩
def MkC (w : World) (A : Option Addr) (es : List Mk) : Prop := ∀ j : Nat, j < es.length → ∃ ad, A = some ad ∧ ad.block < w.heap.size ∧ w.cell? (ad.add (j * 6)) = some (.int .i64 (MkAt es j).f0) ∧ w.cell? ⟨(ad.add (j * 6)).block, (ad.add (j * 6)).off + 1, none⟩ = some (.int .i64 (MkAt es j).f1) ∧ w.cell? ⟨(ad.add (j * 6)).block, (ad.add (j * 6)).off + 2, none⟩ = some (.int .i64 (MkAt es j).f2) ∧ w.cell? ⟨(ad.add (j * 6)).block, (ad.add (j * 6)).off + 3, none⟩ = some (.int .i64 (MkAt es j).f3) ∧ w.cell? ⟨(ad.add (j * 6)).block, (ad.add (j * 6)).off + 4, none⟩ = some (.int .i64 (MkAt es j).f4) ∧ w.cell? ⟨(ad.add (j * 6)).block, (ad.add (j * 6)).off + 5, none⟩ = some (.int .i64 (MkAt es j).f5)
theorem MkC.below {w W : World} {A : Option Addr} {es : List Mk} (h : MkC w A es) (hb : Below w.heap.size w W) : MkC W A es := by
 intro j hj
 obtain ⟨ad, h1, h2, g0, g1, g2, g3, g4, g5⟩ := h j hj
 have hs := hb.size
 have ha := YI ad (j * 6)
 refine ⟨ad, h1, by omega, ?_, ?_, ?_, ?_, ?_, ?_⟩
 · rw [hb.cell (by rw [ha]; exact h2)]; exact g0
 · rw [hb.cell (by show (ad.add (j * 6)).block < _; rw [ha]; exact h2)]; exact g1
 · rw [hb.cell (by show (ad.add (j * 6)).block < _; rw [ha]; exact h2)]; exact g2
 · rw [hb.cell (by show (ad.add (j * 6)).block < _; rw [ha]; exact h2)]; exact g3
 · rw [hb.cell (by show (ad.add (j * 6)).block < _; rw [ha]; exact h2)]; exact g4
 · rw [hb.cell (by show (ad.add (j * 6)).block < _; rw [ha]; exact h2)]; exact g5
theorem MkC.at {w : World} {A : Option Addr} {es : List Mk} (h : MkC w A es) (j : Int) (h0 : 0 ≤ j) (h1 : j < es.length) : ∃ ad, A = some ad ∧ w.cell? (ad.add (j.toNat * 6)) = some (.int .i64 (MkAt es j).f0) ∧ w.cell? ⟨(ad.add (j.toNat * 6)).block, (ad.add (j.toNat * 6)).off + 1, none⟩ = some (.int .i64 (MkAt es j).f1) ∧ w.cell? ⟨(ad.add (j.toNat * 6)).block, (ad.add (j.toNat * 6)).off + 2, none⟩ = some (.int .i64 (MkAt es j).f2) ∧ w.cell? ⟨(ad.add (j.toNat * 6)).block, (ad.add (j.toNat * 6)).off + 3, none⟩ = some (.int .i64 (MkAt es j).f3) ∧ w.cell? ⟨(ad.add (j.toNat * 6)).block, (ad.add (j.toNat * 6)).off + 4, none⟩ = some (.int .i64 (MkAt es j).f4) ∧ w.cell? ⟨(ad.add (j.toNat * 6)).block, (ad.add (j.toNat * 6)).off + 5, none⟩ = some (.int .i64 (MkAt es j).f5) := by
 obtain ⟨ad, h2, _, h3⟩ := h j.toNat (by omega)
 have e : ((j.toNat : Nat) : Int) = j := by omega
 rw [e] at h3
 exact ⟨ad, h2, h3⟩
set_option maxRecDepth 100000 in
set_option maxHeartbeats 4000000 in
theorem Yzq (n : Nat) (hn : 2 ≤ n) (l B n₀ gt : Nat) (caps : Array Value) (t : Mk → Bool) (K : Nat → Prop) (hK0 : K B) (hK1 : K (B + 1)) (hB : n₀ ≤ B) (A : Option Addr) (cap : Nat) (es : List Mk) (w0 : World) (hn0 : n₀ = w0.heap.size) (hC : MkC w0 A es) (hsm : es.length < 1000000)
 (W : World) (hW : Below n₀ w0 W) (hKW : ∀ k, K k → k < W.heap.size) (b0 : Boxed W B 36 (.slice A es.length cap)) (b1 : Boxed W (B + 1) 105 (.func (.func gt) #[] caps))
 (hgt : ∀ args w, (callFunc gt args).run Tryz.prog w = .ok (.enter gt args) w)
 (hT : ∀ (x : Mk) (V : World), Below n₀ w0 V → (∀ k, K k → V.heap[k]? = W.heap[k]?) → Calls Tryz.prog gt (#[.agg x.arr] ++ caps) V fun e V' => e = .returned (.bool (t x)) ∧ Below V.heap.size V V')
 (J Jx : List Mk → World → Prop) (hJc : ∀ s A A', Below A.heap.size A A' → J s A → J s A')
 (hY : ∀ pre (x : Mk) V, J pre V → pre.length < (es.filter t).length → YieldAt Fence.wide (n - 1) Tryz.prog l #[.agg x.arr] V fun e V' =>
   (e = .returned (.bool true) ∧ J (pre ++ [x]) V' ∧ Below n₀ V V' ∧ ∀ k, K k → V'.heap[k]? = V.heap[k]?) ∨ (e = .returned (.bool false) ∧ Jx (pre ++ [x]) V')) (h0 : J [] W) :
 CallsIn Fence.wide n Tryz.prog 67 #[.func (.yield l) #[] #[], .pointer (some ⟨B, 0, none⟩), .pointer (some ⟨B + 1, 0, none⟩)] W fun e W' => (∃ v, e = .returned v) ∧
  ((∃ ys, ys = es.filter t ∧ J ys W') ∨ (∃ pre, pre <+: es.filter t ∧ Jx pre W')) := by
 refine callsIn_of_wp Tryz.func67 rfl trivial ?_ rfl
 simp only [Tryz.ntmps67, List.size_toArray, List.length_cons, List.length_nil, Nat.reduceAdd, Nat.reduceSub, Array.replicate_succ, Array.replicate_zero, List.push_toArray, List.append_toArray, List.nil_append, List.cons_append]
 have c0 := b0.cell
 gi_wp2
 gi_loopw [8] (fun i wr => ∃ (j : Int) (pre : List Mk), i = .int .i64 j ∧ 0 ≤ j ∧ j ≤ es.length ∧ es.filter t = pre ++ (es.drop j.toNat).filter t ∧ Below n₀ w0 wr ∧ (∀ k, K k → wr.heap[k]? = W.heap[k]?) ∧ J pre wr)
  (fun i wr => es.length - (intOf i).toNat)
 case atStart =>
  exact ⟨0, [], rfl, by omega, by omega, rfl, hW, fun _ _ => rfl, h0⟩
 case round =>
  obtain ⟨j, pre, rfl, hj0, hj, hp, hBw, hKw, hJs⟩ := hrel
  by_cases hlt : j < es.length
  · have hlt' : j.toNat < es.length := by omega
    have hd : es.drop j.toNat = es[j.toNat] :: es.drop (j.toNat + 1) := List.drop_eq_getElem_cons hlt'
    have hCr : MkC wr A es := hC.below (hn0 ▸ hBw)
    obtain ⟨ad, rfl, q0, q1, q2, q3, q4, q5⟩ := MkC.at hCr j hj0 hlt
    have hel : MkAt es j = es[j.toNat] := by unfold MkAt; simp [List.getD_eq_getElem?_getD, List.getElem?_eq_getElem hlt']
    rw [hel] at q0 q1 q2 q3 q4 q5
    rw [hd] at hp
    generalize es[j.toNat] = x at q0 q1 q2 q3 q4 q5 hp
    obtain ⟨v0, v1, v2, v3, v4, v5⟩ := x
    simp only at q0 q1 q2 q3 q4 q5
    clear hel hd c0
    have HP := Aside0.mk hp
    have HC := Aside0.mk hC
    have HN := Aside0.mk hn0
    clear hp hC hCr hn0
    have hdec : decide (j < (es.length : Int)) = true := decide_eq_true hlt
    have d0 : Boxed wr B 36 (.slice (some ad) es.length cap) := (hKw _ hK0).trans b0
    have d1 : Boxed wr (B + 1) 105 (.func (.func gt) #[] caps) := (hKw _ hK1).trans b1
    have d0c := d0.cell
    have d1c := d1.cell
    have hl0 := d0.lt
    have hl1 := d1.lt
    have e1 := (d1.alloc (.cells #[.int .i64 v0, .int .i64 v1, .int .i64 v2, .int .i64 v3, .int .i64 v4, .int .i64 v5] 52)).cell
    gi_wp2
    have hBel1 : Below wr.heap.size wr (wr.alloc (.cells #[.int .i64 v0, .int .i64 v1, .int .i64 v2, .int .i64 v3, .int .i64 v4, .int .i64 v5] 52)) := (Below.refl _ wr).alloc (Nat.le_refl _) _
    have hBw1 : Below n₀ w0 (wr.alloc (.cells #[.int .i64 v0, .int .i64 v1, .int .i64 v2, .int .i64 v3, .int .i64 v4, .int .i64 v5] 52)) := hBw.alloc (by have := HN.out; have := hBw.size; omega) _
    have hKw1 : ∀ k, K k → (wr.alloc (.cells #[.int .i64 v0, .int .i64 v1, .int .i64 v2, .int .i64 v3, .int .i64 v4, .int .i64 v5] 52)).heap[k]? = W.heap[k]? := fun k hk => (Below.heap_alloc _ _ _ (by
     have h9 := hKw k hk
     have h8 := hKW k hk
     rw [Array.getElem?_eq_getElem h8] at h9
     exact (Array.getElem?_eq_some_iff.1 h9).1)).trans (hKw k hk)
    refine ⟨trivial, fun _ => by omega, (callsIn_wide.2 (hT ⟨v0, v1, v2, v3, v4, v5⟩ _ hBw1 hKw1)).mono ?_⟩
    rintro e w2 ⟨rfl, hb2⟩
    have hBel : Below wr.heap.size wr w2 := hBel1.trans (hb2.mono (by simp))
    have hAp : Apart (B + 1) wr w2 := Apart.of_below hBel
    have hJ2 := hJc _ _ _ hBel hJs
    have hBw2 : Below n₀ w0 w2 := hAp.below hBw (by omega) (by have := HN.out; omega)
    have hKlt : ∀ k, K k → k < wr.heap.size := fun k hk => by
     have h9 := hKw k hk
     have h8 := hKW k hk
     rw [Array.getElem?_eq_getElem h8] at h9
     exact (Array.getElem?_eq_some_iff.1 h9).1
    have hKw2 : ∀ k, K k → w2.heap[k]? = W.heap[k]? := fun k hk => (hBel.block k (hKlt k hk)).trans (hKw k hk)
    have hxb : w2.heap[wr.heap.size]? = some (.cells #[.int .i64 v0, .int .i64 v1, .int .i64 v2, .int .i64 v3, .int .i64 v4, .int .i64 v5] 52 (0, 0)) := by
     rw [hb2.block wr.heap.size (by simp)]
     exact heap_alloc_new _ _
    have x0 : w2.cell? ⟨wr.heap.size, 0, none⟩ = some (.int .i64 v0) := by simp [World.cell?, hxb]
    have x1 : w2.cell? ⟨wr.heap.size, 1, none⟩ = some (.int .i64 v1) := by simp [World.cell?, hxb]
    have x2 : w2.cell? ⟨wr.heap.size, 2, none⟩ = some (.int .i64 v2) := by simp [World.cell?, hxb]
    have x3 : w2.cell? ⟨wr.heap.size, 3, none⟩ = some (.int .i64 v3) := by simp [World.cell?, hxb]
    have x4 : w2.cell? ⟨wr.heap.size, 4, none⟩ = some (.int .i64 v4) := by simp [World.cell?, hxb]
    have x5 : w2.cell? ⟨wr.heap.size, 5, none⟩ = some (.int .i64 v5) := by simp [World.cell?, hxb]
    have wj : IntKind.i64.wrap (j + 1) = j + 1 := by rw [IntKind.wrap_i64]; omega
    have hfd : ∀ b, t ⟨v0, v1, v2, v3, v4, v5⟩ = b → es.filter t = pre ++ ((match b with | true => [⟨v0, v1, v2, v3, v4, v5⟩] | false => []) ++ (es.drop (j.toNat + 1)).filter t) := fun b hb => by
     rw [HP.out, List.filter_cons, hb]
     cases b <;> rfl
    generalize ht : t ⟨v0, v1, v2, v3, v4, v5⟩ = b at hfd
    have HF := Aside0.mk (hfd b rfl)
    clear hfd
    cases b with
    | true =>
      obtain ⟨fn, tmps, assign, body, hy, hR⟩ := hY pre ⟨v0, v1, v2, v3, v4, v5⟩ w2 hJ2 (by rw [HF.out]; simp)
      simp only [Mk.arr] at hy
      gi_wp2
      refine ⟨fun _ => by omega, hR.mono ?_⟩
      rintro e w3 (⟨rfl, hJ3, hB3, hk3⟩ | ⟨rfl, hJx3⟩)
      · gi_wp2
        go_roundw
        case rel => exact ⟨j + 1, pre ++ [⟨v0, v1, v2, v3, v4, v5⟩], by first | rfl | (rw [wj]; rfl) | (simp [wj]; done), by omega, by omega, by rw [show (j + 1).toNat = j.toNat + 1 by omega, HF.out]; simp, hBw2.trans hB3, fun k hk => (hk3 k hk).trans (hKw2 k hk), hJ3⟩
        case measure => simp [intOf, wj]; omega
      · gi_wp2
        refine bodyPost_ret (results_none rfl _ _ _) rfl ?_
        exact ⟨⟨_, rfl⟩, .inr ⟨pre ++ [⟨v0, v1, v2, v3, v4, v5⟩], ⟨(es.drop (j.toNat + 1)).filter t, by rw [HF.out]; simp⟩, hJx3⟩⟩
    | false =>
      gi_wp2
      refine ⟨fun _ q => (by cases q), ?_⟩
      gi_wp2
      go_roundw
      case rel => exact ⟨j + 1, pre, by first | rfl | (rw [wj]; rfl) | (simp [wj]; done), by omega, by omega, by rw [show (j + 1).toNat = j.toNat + 1 by omega, HF.out]; simp, hBw2, hKw2, hJ2⟩
      case measure => simp [intOf, wj]; omega
  · have hdec : decide (j < (es.length : Int)) = false := decide_eq_false hlt
    have ej : es.drop j.toNat = [] := List.drop_eq_nil_of_le (by omega)
    rw [ej] at hp
    gi_wp2
    go_end0
    exact ⟨⟨_, rfl⟩, .inl (by first | exact hJs | exact ⟨pre, by simpa using hp.symm, hJs⟩ | (simpa [hp] using hJs))⟩
structure Ev where
 (f0 : Int) (f1 : Int) (f2 : Int) (f3 : Int) (f4 : Int) (f5 : Int) (f6 : Bool) (f7 : Int)
def Ev.arr (x : Ev) : Array Value := #[.int .i64 x.f0, .int .i64 x.f1, .int .i64 x.f2, .int .i64 x.f3, .int .i64 x.f4, .int .i64 x.f5, .bool x.f6, .int .i64 x.f7]
def EvAt (es : List Ev) (j : Int) : Ev := es.getD j.toNat ⟨0, 0, 0, 0, 0, 0, false, 0⟩
def EvC (w : World) (A : Option Addr) (es : List Ev) : Prop := ∀ j : Nat, j < es.length → ∃ ad, A = some ad ∧ ad.block < w.heap.size ∧ w.cell? (ad.add (j * 8)) = some (.int .i64 (EvAt es j).f0) ∧ w.cell? ⟨(ad.add (j * 8)).block, (ad.add (j * 8)).off + 1, none⟩ = some (.int .i64 (EvAt es j).f1) ∧ w.cell? ⟨(ad.add (j * 8)).block, (ad.add (j * 8)).off + 2, none⟩ = some (.int .i64 (EvAt es j).f2) ∧ w.cell? ⟨(ad.add (j * 8)).block, (ad.add (j * 8)).off + 3, none⟩ = some (.int .i64 (EvAt es j).f3) ∧ w.cell? ⟨(ad.add (j * 8)).block, (ad.add (j * 8)).off + 4, none⟩ = some (.int .i64 (EvAt es j).f4) ∧ w.cell? ⟨(ad.add (j * 8)).block, (ad.add (j * 8)).off + 5, none⟩ = some (.int .i64 (EvAt es j).f5) ∧ w.cell? ⟨(ad.add (j * 8)).block, (ad.add (j * 8)).off + 6, none⟩ = some (.bool (EvAt es j).f6) ∧ w.cell? ⟨(ad.add (j * 8)).block, (ad.add (j * 8)).off + 7, none⟩ = some (.int .i64 (EvAt es j).f7)
theorem EvC.below {w W : World} {A : Option Addr} {es : List Ev} (h : EvC w A es) (hb : Below w.heap.size w W) : EvC W A es := by
 intro j hj
 obtain ⟨ad, h1, h2, g0, g1, g2, g3, g4, g5, g6, g7⟩ := h j hj
 have hs := hb.size
 have ha := YI ad (j * 8)
 refine ⟨ad, h1, by omega, ?_, ?_, ?_, ?_, ?_, ?_, ?_, ?_⟩
 · rw [hb.cell (by rw [ha]; exact h2)]; exact g0
 · rw [hb.cell (by show (ad.add (j * 8)).block < _; rw [ha]; exact h2)]; exact g1
 · rw [hb.cell (by show (ad.add (j * 8)).block < _; rw [ha]; exact h2)]; exact g2
 · rw [hb.cell (by show (ad.add (j * 8)).block < _; rw [ha]; exact h2)]; exact g3
 · rw [hb.cell (by show (ad.add (j * 8)).block < _; rw [ha]; exact h2)]; exact g4
 · rw [hb.cell (by show (ad.add (j * 8)).block < _; rw [ha]; exact h2)]; exact g5
 · rw [hb.cell (by show (ad.add (j * 8)).block < _; rw [ha]; exact h2)]; exact g6
 · rw [hb.cell (by show (ad.add (j * 8)).block < _; rw [ha]; exact h2)]; exact g7
theorem EvC.at {w : World} {A : Option Addr} {es : List Ev} (h : EvC w A es) (j : Int) (h0 : 0 ≤ j) (h1 : j < es.length) : ∃ ad, A = some ad ∧ w.cell? (ad.add (j.toNat * 8)) = some (.int .i64 (EvAt es j).f0) ∧ w.cell? ⟨(ad.add (j.toNat * 8)).block, (ad.add (j.toNat * 8)).off + 1, none⟩ = some (.int .i64 (EvAt es j).f1) ∧ w.cell? ⟨(ad.add (j.toNat * 8)).block, (ad.add (j.toNat * 8)).off + 2, none⟩ = some (.int .i64 (EvAt es j).f2) ∧ w.cell? ⟨(ad.add (j.toNat * 8)).block, (ad.add (j.toNat * 8)).off + 3, none⟩ = some (.int .i64 (EvAt es j).f3) ∧ w.cell? ⟨(ad.add (j.toNat * 8)).block, (ad.add (j.toNat * 8)).off + 4, none⟩ = some (.int .i64 (EvAt es j).f4) ∧ w.cell? ⟨(ad.add (j.toNat * 8)).block, (ad.add (j.toNat * 8)).off + 5, none⟩ = some (.int .i64 (EvAt es j).f5) ∧ w.cell? ⟨(ad.add (j.toNat * 8)).block, (ad.add (j.toNat * 8)).off + 6, none⟩ = some (.bool (EvAt es j).f6) ∧ w.cell? ⟨(ad.add (j.toNat * 8)).block, (ad.add (j.toNat * 8)).off + 7, none⟩ = some (.int .i64 (EvAt es j).f7) := by
 obtain ⟨ad, h2, _, h3⟩ := h j.toNat (by omega)
 have e : ((j.toNat : Nat) : Int) = j := by omega
 rw [e] at h3
 exact ⟨ad, h2, h3⟩
set_option maxRecDepth 100000 in
set_option maxHeartbeats 4000000 in
theorem Zz8 (n : Nat) (hn : 2 ≤ n) (l B n₀ gt : Nat) (caps : Array Value) (t : Ev → Bool) (K : Nat → Prop) (hK0 : K B) (hK1 : K (B + 1)) (hB : n₀ ≤ B) (A : Option Addr) (cap : Nat) (es : List Ev) (w0 : World) (hn0 : n₀ = w0.heap.size) (hC : EvC w0 A es) (hsm : es.length < 1000000)
 (W : World) (hW : Below n₀ w0 W) (hKW : ∀ k, K k → k < W.heap.size) (b0 : Boxed W B 37 (.slice A es.length cap)) (b1 : Boxed W (B + 1) 137 (.func (.func gt) #[] caps))
 (hgt : ∀ args w, (callFunc gt args).run Tryz.prog w = .ok (.enter gt args) w)
 (hT : ∀ (x : Ev) (V : World), Below n₀ w0 V → (∀ k, K k → V.heap[k]? = W.heap[k]?) → Calls Tryz.prog gt (#[.agg x.arr] ++ caps) V fun e V' => e = .returned (.bool (t x)) ∧ Below V.heap.size V V')
 (J Jx : List Ev → World → Prop) (hJc : ∀ s A A', Below A.heap.size A A' → J s A → J s A')
 (hY : ∀ pre (x : Ev) V, J pre V → pre.length < (es.filter t).length → YieldAt Fence.wide (n - 1) Tryz.prog l #[.agg x.arr] V fun e V' =>
   (e = .returned (.bool true) ∧ J (pre ++ [x]) V' ∧ Below n₀ V V' ∧ ∀ k, K k → V'.heap[k]? = V.heap[k]?) ∨ (e = .returned (.bool false) ∧ Jx (pre ++ [x]) V')) (h0 : J [] W) :
 CallsIn Fence.wide n Tryz.prog 80 #[.func (.yield l) #[] #[], .pointer (some ⟨B, 0, none⟩), .pointer (some ⟨B + 1, 0, none⟩)] W fun e W' => (∃ v, e = .returned v) ∧
  ((∃ ys, ys = es.filter t ∧ J ys W') ∨ (∃ pre, pre <+: es.filter t ∧ Jx pre W')) := by
 refine callsIn_of_wp Tryz.func80 rfl trivial ?_ rfl
 simp only [Tryz.ntmps80, List.size_toArray, List.length_cons, List.length_nil, Nat.reduceAdd, Nat.reduceSub, Array.replicate_succ, Array.replicate_zero, List.push_toArray, List.append_toArray, List.nil_append, List.cons_append]
 have c0 := b0.cell
 gi_wp2
 gi_loopw [8] (fun i wr => ∃ (j : Int) (pre : List Ev), i = .int .i64 j ∧ 0 ≤ j ∧ j ≤ es.length ∧ es.filter t = pre ++ (es.drop j.toNat).filter t ∧ Below n₀ w0 wr ∧ (∀ k, K k → wr.heap[k]? = W.heap[k]?) ∧ J pre wr)
  (fun i wr => es.length - (intOf i).toNat)
 case atStart =>
  exact ⟨0, [], rfl, by omega, by omega, rfl, hW, fun _ _ => rfl, h0⟩
 case round =>
  obtain ⟨j, pre, rfl, hj0, hj, hp, hBw, hKw, hJs⟩ := hrel
  by_cases hlt : j < es.length
  · have hlt' : j.toNat < es.length := by omega
    have hd : es.drop j.toNat = es[j.toNat] :: es.drop (j.toNat + 1) := List.drop_eq_getElem_cons hlt'
    have hCr : EvC wr A es := hC.below (hn0 ▸ hBw)
    obtain ⟨ad, rfl, q0, q1, q2, q3, q4, q5, q6, q7⟩ := EvC.at hCr j hj0 hlt
    have hel : EvAt es j = es[j.toNat] := by unfold EvAt; simp [List.getD_eq_getElem?_getD, List.getElem?_eq_getElem hlt']
    rw [hel] at q0 q1 q2 q3 q4 q5 q6 q7
    rw [hd] at hp
    generalize es[j.toNat] = x at q0 q1 q2 q3 q4 q5 q6 q7 hp
    obtain ⟨v0, v1, v2, v3, v4, v5, v6, v7⟩ := x
    simp only at q0 q1 q2 q3 q4 q5 q6 q7
    clear hel hd c0
    have HP := Aside0.mk hp
    have HC := Aside0.mk hC
    have HN := Aside0.mk hn0
    clear hp hC hCr hn0
    have hdec : decide (j < (es.length : Int)) = true := decide_eq_true hlt
    have d0 : Boxed wr B 37 (.slice (some ad) es.length cap) := (hKw _ hK0).trans b0
    have d1 : Boxed wr (B + 1) 137 (.func (.func gt) #[] caps) := (hKw _ hK1).trans b1
    have d0c := d0.cell
    have d1c := d1.cell
    have hl0 := d0.lt
    have hl1 := d1.lt
    have e1 := (d1.alloc (.cells #[.int .i64 v0, .int .i64 v1, .int .i64 v2, .int .i64 v3, .int .i64 v4, .int .i64 v5, .bool v6, .int .i64 v7] 64)).cell
    gi_wp2
    have hBel1 : Below wr.heap.size wr (wr.alloc (.cells #[.int .i64 v0, .int .i64 v1, .int .i64 v2, .int .i64 v3, .int .i64 v4, .int .i64 v5, .bool v6, .int .i64 v7] 64)) := (Below.refl _ wr).alloc (Nat.le_refl _) _
    have hBw1 : Below n₀ w0 (wr.alloc (.cells #[.int .i64 v0, .int .i64 v1, .int .i64 v2, .int .i64 v3, .int .i64 v4, .int .i64 v5, .bool v6, .int .i64 v7] 64)) := hBw.alloc (by have := HN.out; have := hBw.size; omega) _
    have hKw1 : ∀ k, K k → (wr.alloc (.cells #[.int .i64 v0, .int .i64 v1, .int .i64 v2, .int .i64 v3, .int .i64 v4, .int .i64 v5, .bool v6, .int .i64 v7] 64)).heap[k]? = W.heap[k]? := fun k hk => (Below.heap_alloc _ _ _ (by
     have h9 := hKw k hk
     have h8 := hKW k hk
     rw [Array.getElem?_eq_getElem h8] at h9
     exact (Array.getElem?_eq_some_iff.1 h9).1)).trans (hKw k hk)
    refine ⟨trivial, fun _ => by omega, (callsIn_wide.2 (hT ⟨v0, v1, v2, v3, v4, v5, v6, v7⟩ _ hBw1 hKw1)).mono ?_⟩
    rintro e w2 ⟨rfl, hb2⟩
    have hBel : Below wr.heap.size wr w2 := hBel1.trans (hb2.mono (by simp))
    have hAp : Apart (B + 1) wr w2 := Apart.of_below hBel
    have hJ2 := hJc _ _ _ hBel hJs
    have hBw2 : Below n₀ w0 w2 := hAp.below hBw (by omega) (by have := HN.out; omega)
    have hKlt : ∀ k, K k → k < wr.heap.size := fun k hk => by
     have h9 := hKw k hk
     have h8 := hKW k hk
     rw [Array.getElem?_eq_getElem h8] at h9
     exact (Array.getElem?_eq_some_iff.1 h9).1
    have hKw2 : ∀ k, K k → w2.heap[k]? = W.heap[k]? := fun k hk => (hBel.block k (hKlt k hk)).trans (hKw k hk)
    have hxb : w2.heap[wr.heap.size]? = some (.cells #[.int .i64 v0, .int .i64 v1, .int .i64 v2, .int .i64 v3, .int .i64 v4, .int .i64 v5, .bool v6, .int .i64 v7] 64 (0, 0)) := by
     rw [hb2.block wr.heap.size (by simp)]
     exact heap_alloc_new _ _
    have x0 : w2.cell? ⟨wr.heap.size, 0, none⟩ = some (.int .i64 v0) := by simp [World.cell?, hxb]
    have x1 : w2.cell? ⟨wr.heap.size, 1, none⟩ = some (.int .i64 v1) := by simp [World.cell?, hxb]
    have x2 : w2.cell? ⟨wr.heap.size, 2, none⟩ = some (.int .i64 v2) := by simp [World.cell?, hxb]
    have x3 : w2.cell? ⟨wr.heap.size, 3, none⟩ = some (.int .i64 v3) := by simp [World.cell?, hxb]
    have x4 : w2.cell? ⟨wr.heap.size, 4, none⟩ = some (.int .i64 v4) := by simp [World.cell?, hxb]
    have x5 : w2.cell? ⟨wr.heap.size, 5, none⟩ = some (.int .i64 v5) := by simp [World.cell?, hxb]
    have x6 : w2.cell? ⟨wr.heap.size, 6, none⟩ = some (.bool v6) := by simp [World.cell?, hxb]
    have x7 : w2.cell? ⟨wr.heap.size, 7, none⟩ = some (.int .i64 v7) := by simp [World.cell?, hxb]
    have wj : IntKind.i64.wrap (j + 1) = j + 1 := by rw [IntKind.wrap_i64]; omega
    have hfd : ∀ b, t ⟨v0, v1, v2, v3, v4, v5, v6, v7⟩ = b → es.filter t = pre ++ ((match b with | true => [⟨v0, v1, v2, v3, v4, v5, v6, v7⟩] | false => []) ++ (es.drop (j.toNat + 1)).filter t) := fun b hb => by
     rw [HP.out, List.filter_cons, hb]
     cases b <;> rfl
    generalize ht : t ⟨v0, v1, v2, v3, v4, v5, v6, v7⟩ = b at hfd
    have HF := Aside0.mk (hfd b rfl)
    clear hfd
    cases b with
    | true =>
      obtain ⟨fn, tmps, assign, body, hy, hR⟩ := hY pre ⟨v0, v1, v2, v3, v4, v5, v6, v7⟩ w2 hJ2 (by rw [HF.out]; simp)
      simp only [Ev.arr] at hy
      gi_wp2
      refine ⟨fun _ => by omega, hR.mono ?_⟩
      rintro e w3 (⟨rfl, hJ3, hB3, hk3⟩ | ⟨rfl, hJx3⟩)
      · gi_wp2
        go_roundw
        case rel => exact ⟨j + 1, pre ++ [⟨v0, v1, v2, v3, v4, v5, v6, v7⟩], by first | rfl | (rw [wj]; rfl) | (simp [wj]; done), by omega, by omega, by rw [show (j + 1).toNat = j.toNat + 1 by omega, HF.out]; simp, hBw2.trans hB3, fun k hk => (hk3 k hk).trans (hKw2 k hk), hJ3⟩
        case measure => simp [intOf, wj]; omega
      · gi_wp2
        refine bodyPost_ret (results_none rfl _ _ _) rfl ?_
        exact ⟨⟨_, rfl⟩, .inr ⟨pre ++ [⟨v0, v1, v2, v3, v4, v5, v6, v7⟩], ⟨(es.drop (j.toNat + 1)).filter t, by rw [HF.out]; simp⟩, hJx3⟩⟩
    | false =>
      gi_wp2
      refine ⟨fun _ q => (by cases q), ?_⟩
      gi_wp2
      go_roundw
      case rel => exact ⟨j + 1, pre, by first | rfl | (rw [wj]; rfl) | (simp [wj]; done), by omega, by omega, by rw [show (j + 1).toNat = j.toNat + 1 by omega, HF.out]; simp, hBw2, hKw2, hJ2⟩
      case measure => simp [intOf, wj]; omega
  · have hdec : decide (j < (es.length : Int)) = false := decide_eq_false hlt
    have ej : es.drop j.toNat = [] := List.drop_eq_nil_of_le (by omega)
    rw [ej] at hp
    gi_wp2
    go_end0
    exact ⟨⟨_, rfl⟩, .inl (by first | exact hJs | exact ⟨pre, by simpa using hp.symm, hJs⟩ | (simpa [hp] using hJs))⟩
end
set_option maxRecDepth 10000
section
open Go.Shelf Go.Boxes
attribute [local go_sem] Oper.semAt_some
set_option maxHeartbeats 4000000 in
theorem YP (A : Option Addr) (n c g : Nat) (caps : Array Value) (w : World) : Calls Tryz.prog 47 #[.slice A n c, .func (.func g) #[] caps] w fun e w' => e = .returned (.func (.func 67) #[] #[.pointer (some ⟨w.heap.size, 0, none⟩), .pointer (some ⟨w.heap.size + 1, 0, none⟩)]) ∧ w' = (w.alloc (.cells #[.slice A n c] 36)).alloc (.cells #[.func (.func g) #[] caps] 105) := by
 go_enter Tryz.func47, Tryz.ntmps47
 go_wp2
 go_ret
 exact ⟨rfl, rfl⟩
set_option maxHeartbeats 4000000 in
theorem Qzq (x : Mk) (b : Nat) (item : Int) (w : World) (h : w.cell? ⟨b, 0, none⟩ = some (.int .i64 item)) : Calls Tryz.prog 48 #[.agg x.arr, .pointer (some ⟨b, 0, none⟩)] w fun e w' => e = .returned (.bool (x.f1 == item)) ∧ Below w.heap.size w w' := by
 have hb := World.block_lt_of_cell? _ _ h
 obtain ⟨v0, v1, v2, v3, v4, v5⟩ := x
 unfold Mk.arr
 have e1 : ∀ o, (w.alloc o).cell? ⟨b, 0, none⟩ = some (.int .i64 item) := fun o => (((Below.refl w.heap.size w).alloc (Nat.le_refl _) o).cell (p := ⟨b, 0, none⟩) hb).trans h
 go_enter Tryz.func48, Tryz.ntmps48
 go_wp2
 go_ret
 exact ⟨by simp, (Below.refl _ _).alloc (Nat.le_refl _) _⟩
def KpR (n₀ : Nat) (A B : World) : Prop := Below n₀ A B ∧ ∀ k, (k = n₀ + 1 ∨ k = n₀ + 1 + 1 + 1 + 1 ∨ k = n₀ + 1 + 1 + 1 + 1 + 1) → B.heap[k]? = A.heap[k]?
theorem KpR.trans {n : Nat} {A B C : World} (h : KpR n A B) (k : KpR n B C) : KpR n A C := ⟨h.1.trans k.1, fun q hq => (k.2 q hq).trans (h.2 q hq)⟩
noncomputable def repS (lo hi : Int) (s : Int × Bool) (m : Mk) : Int × Bool := ((ap m.f2 m.f3 s.1 lo hi).y1, s.2 && s.1 == m.f4)
set_option maxRecDepth 100000 in
set_option maxHeartbeats 4000000 in
theorem Yz8 (a0 : Int) (a1 : Int) (a2 : Int) (a3 : Int) (a4 : Int) (a5 : Int) (a6 : Int) (a7 : Int) (a8 : Bool) (a9 : Int) (a10 : Int) (a11 : Int) (item : Int) (A : Option Addr) (c : Nat) (es : List Mk) (w : World) (hC : MkC w A es) (hsm : es.length < 1000000) :
 CallsIn Fence.wide 9 Tryz.prog 32 #[.agg #[.int .i64 a0, .int .i64 a1, .int .i64 a2, .int .i64 a3, .int .i64 a4, .int .i64 a5, .int .i64 a6, .int .i64 a7, .bool a8, .int .i64 a9, .int .i64 a10, .int .i64 a11], .slice A es.length c, .int .i64 item] w fun e w' => e = .returned (.tuple #[.int .i64 ((es.filter fun m => m.f1 == item).foldl (repS a9 a10) (a11, true)).1, .bool ((es.filter fun m => m.f1 == item).foldl (repS a9 a10) (a11, true)).2]) ∧ Below w.heap.size w w' := by
 refine callsIn_of_wp_marks Tryz.func32 rfl trivial ?_ rfl
 simp only [Tryz.ntmps32, List.size_toArray, List.length_cons, List.length_nil, Nat.reduceAdd, Nat.reduceSub, Array.replicate_succ, Array.replicate_zero, List.push_toArray, List.append_toArray, List.nil_append, List.cons_append]
 gi_wp2
 refine ⟨trivial, (callsIn_wide.2 (YP A es.length c 48 _ _)).mono ?_⟩
 rintro e w1 ⟨rfl, e1⟩
 cases e1
 simp only [World.size_alloc]
 obtain ⟨W6, hW6⟩ : ∃ W6, (((((((w.alloc (.cells #[.int .i64 a0, .int .i64 a1, .int .i64 a2, .int .i64 a3, .int .i64 a4, .int .i64 a5, .int .i64 a6, .int .i64 a7, .bool a8, .int .i64 a9, .int .i64 a10, .int .i64 a11] 23)).alloc (.cells #[.int .i64 item] 3)).alloc (.cells #[.int .i64 a11] 3)).alloc (.cells #[.bool true] 4)).alloc (.cells #[.slice A es.length c] 36)).alloc (.cells #[.func (.func 48) #[] #[.pointer (some ⟨w.heap.size + 1, 0, none⟩)]] 105)) : World) = W6 := ⟨_, rfl⟩
 have hsz : W6.heap.size = w.heap.size + 6 := by rw [← hW6]; simp
 have past : ∀ (V : World) (o : Obj) (k : Nat) (q : Obj), V.heap[k]? = some q → (V.alloc o).heap[k]? = some q := fun V o k q h => (Below.heap_alloc V o k (Array.getElem?_eq_some_iff.1 h).1).trans h
 have bc : W6.heap[w.heap.size]? = some (.cells #[.int .i64 a0, .int .i64 a1, .int .i64 a2, .int .i64 a3, .int .i64 a4, .int .i64 a5, .int .i64 a6, .int .i64 a7, .bool a8, .int .i64 a9, .int .i64 a10, .int .i64 a11] 23 (0, 0)) := by rw [← hW6]; exact past _ _ _ _ (past _ _ _ _ (past _ _ _ _ (past _ _ _ _ (past _ _ _ _ (heap_alloc_new _ _)))))
 have bi : Boxed W6 (w.heap.size + 1) 3 (.int .i64 item) := by
  have q := Boxed.new (w.alloc (.cells #[.int .i64 a0, .int .i64 a1, .int .i64 a2, .int .i64 a3, .int .i64 a4, .int .i64 a5, .int .i64 a6, .int .i64 a7, .bool a8, .int .i64 a9, .int .i64 a10, .int .i64 a11] 23)) 3 (.int .i64 item)
  simp only [World.size_alloc] at q
  rw [← hW6]
  exact (((q.alloc _).alloc _).alloc _).alloc _
 have bx : Boxed W6 (w.heap.size + 1 + 1) 3 (.int .i64 a11) := by
  have q := Boxed.new ((w.alloc (.cells #[.int .i64 a0, .int .i64 a1, .int .i64 a2, .int .i64 a3, .int .i64 a4, .int .i64 a5, .int .i64 a6, .int .i64 a7, .bool a8, .int .i64 a9, .int .i64 a10, .int .i64 a11] 23)).alloc (.cells #[.int .i64 item] 3)) 3 (.int .i64 a11)
  simp only [World.size_alloc] at q
  rw [← hW6]
  exact ((q.alloc _).alloc _).alloc _
 have bf : Boxed W6 (w.heap.size + 1 + 1 + 1) 4 (.bool true) := by
  have q := Boxed.new (((w.alloc (.cells #[.int .i64 a0, .int .i64 a1, .int .i64 a2, .int .i64 a3, .int .i64 a4, .int .i64 a5, .int .i64 a6, .int .i64 a7, .bool a8, .int .i64 a9, .int .i64 a10, .int .i64 a11] 23)).alloc (.cells #[.int .i64 item] 3)).alloc (.cells #[.int .i64 a11] 3)) 4 (.bool true)
  simp only [World.size_alloc] at q
  rw [← hW6]
  exact (q.alloc _).alloc _
 have bl : Boxed W6 (w.heap.size + 1 + 1 + 1 + 1) 36 (.slice A es.length c) := by
  have q := Boxed.new ((((w.alloc (.cells #[.int .i64 a0, .int .i64 a1, .int .i64 a2, .int .i64 a3, .int .i64 a4, .int .i64 a5, .int .i64 a6, .int .i64 a7, .bool a8, .int .i64 a9, .int .i64 a10, .int .i64 a11] 23)).alloc (.cells #[.int .i64 item] 3)).alloc (.cells #[.int .i64 a11] 3)).alloc (.cells #[.bool true] 4)) 36 (.slice A es.length c)
  simp only [World.size_alloc] at q
  rw [← hW6]
  exact q.alloc _
 have bt : Boxed W6 (w.heap.size + 1 + 1 + 1 + 1 + 1) 105 (.func (.func 48) #[] #[.pointer (some ⟨w.heap.size + 1, 0, none⟩)]) := by
  have q := Boxed.new (((((w.alloc (.cells #[.int .i64 a0, .int .i64 a1, .int .i64 a2, .int .i64 a3, .int .i64 a4, .int .i64 a5, .int .i64 a6, .int .i64 a7, .bool a8, .int .i64 a9, .int .i64 a10, .int .i64 a11] 23)).alloc (.cells #[.int .i64 item] 3)).alloc (.cells #[.int .i64 a11] 3)).alloc (.cells #[.bool true] 4)).alloc (.cells #[.slice A es.length c] 36)) 105 (.func (.func 48) #[] #[.pointer (some ⟨w.heap.size + 1, 0, none⟩)])
  simp only [World.size_alloc] at q
  rw [← hW6]
  exact q
 have hB6 : Below w.heap.size w W6 := by rw [← hW6]; exact ((((((Below.refl _ w).alloc (Nat.le_refl _) _).alloc (by simp) _).alloc (by simp; omega) _).alloc (by simp; omega) _).alloc (by simp; omega) _).alloc (by simp; omega) _
 gi_wp2
 rw [hW6]
 generalize hfs : (es.filter fun m => m.f1 == item) = fs
 refine qzP rfl (by omega) (gf := 67) (lb := #[.pointer (some ⟨w.heap.size + 1 + 1 + 1 + 1, 0, none⟩), .pointer (some ⟨w.heap.size + 1 + 1 + 1 + 1 + 1, 0, none⟩)]) rfl trivial (enters_of Tryz.func67 (by kernel_rfl) rfl) (encs := fun m : Mk => #[.agg m.arr]) (Kp := KpR w.heap.size) (S := fun ys => ys = fs) (Sp := fun pre => pre <+: fs) (N := fs.length) (Bx := w.heap.size + 1 + 1 + 1 + 1 + 1) (fun _ => rfl) (by omega) KpR.trans
  (fun V l o' hl => ⟨⟨rfl, rfl, rfl, by simp, fun k hk => World.putObj_heap_other (by omega)⟩, fun k hk => World.putObj_heap_other (by omega)⟩)
  (fun l J Jx V hV hJc hY h0 => by
    have hkeep : ∀ k, k < w.heap.size + 6 → V.heap[k]? = W6.heap[k]? := fun k hk => hV.block k (by omega)
    rw [← hfs] at hY ⊢
    exact Yzq 8 (by omega) l (w.heap.size + 1 + 1 + 1 + 1) w.heap.size 48 #[.pointer (some ⟨w.heap.size + 1, 0, none⟩)] (fun m => m.f1 == item) (fun k => k = w.heap.size + 1 ∨ k = w.heap.size + 1 + 1 + 1 + 1 ∨ k = w.heap.size + 1 + 1 + 1 + 1 + 1) (by simp) (by simp) (by omega) A c es w rfl hC hsm V (hB6.trans (hV.mono (by omega))) (fun k hk => by have := hV.size; omega) ((hkeep _ (by omega)).trans bl) ((hkeep _ (by omega)).trans bt) (enters_of Tryz.func48 (by kernel_rfl) rfl)
     (fun m U hU hK => Qzq m (w.heap.size + 1) item U (by
       have h1 : U.heap[w.heap.size + 1]? = some (.cells #[.int .i64 item] 3 (0, 0)) := ((hK _ (Or.inl rfl)).trans (hkeep _ (by omega))).trans bi
       simp [World.cell?, h1]))
     J Jx (fun s U U' h => hJc s U U' (Apart.of_below h)) (fun pre m U hJ hlen => hY pre m U hJ hlen) h0)
  (fun pre V => Boxed V (w.heap.size + 1 + 1) 3 (.int .i64 (pre.foldl (repS a9 a10) (a11, true)).1) ∧ Boxed V (w.heap.size + 1 + 1 + 1) 4 (.bool (pre.foldl (repS a9 a10) (a11, true)).2) ∧ V.heap[w.heap.size]? = some (.cells #[.int .i64 a0, .int .i64 a1, .int .i64 a2, .int .i64 a3, .int .i64 a4, .int .i64 a5, .int .i64 a6, .int .i64 a7, .bool a8, .int .i64 a9, .int .i64 a10, .int .i64 a11] 23 (0, 0)) ∧ Below w.heap.size w V ∧ w.heap.size + 6 ≤ V.heap.size)
  (fun _ _ _ => False) ?hI (fun _ _ _ _ _ hs _ _ => hs) ?hIc ⟨bx, bf, bc, hB6, by omega⟩
  (fun s V => ∃ g, w.heap.size + 6 ≤ g ∧ V.heap[g]? = some (.cells s.1.2.arr 52 (0, 0)) ∧ s.2 = { tmps := #[.agg #[.int .i64 a0, .int .i64 a1, .int .i64 a2, .int .i64 a3, .int .i64 a4, .int .i64 a5, .int .i64 a6, .int .i64 a7, .bool a8, .int .i64 a9, .int .i64 a10, .int .i64 a11], .slice A es.length c, .int .i64 item, .pointer (some ⟨w.heap.size, 0, none⟩), undef, .pointer (some ⟨w.heap.size + 1, 0, none⟩), .int .i64 0, .bool false, .pointer (some ⟨w.heap.size + 1 + 1, 0, none⟩), .pointer (some ⟨w.heap.size + 1 + 1 + 1, 0, none⟩), .pointer (some ⟨g, 0, none⟩), .pointer (some ⟨w.heap.size, 11, none⟩), .int .i64 a11, .slice A es.length c, .func (.func 48) #[] #[.pointer (some ⟨w.heap.size + 1, 0, none⟩)], .func (.func 67) #[] #[.pointer (some ⟨w.heap.size + 1 + 1 + 1 + 1, 0, none⟩), .pointer (some ⟨w.heap.size + 1 + 1 + 1 + 1 + 1, 0, none⟩)], .agg s.1.2.arr, undef, undef, undef, undef, undef, undef, undef, undef, undef, undef, undef, undef, undef, undef, undef, undef, undef, undef, undef, undef], defers := [] } ∧
    Boxed V (w.heap.size + 1 + 1) 3 (.int .i64 (s.1.1.foldl (repS a9 a10) (a11, true)).1) ∧ Boxed V (w.heap.size + 1 + 1 + 1) 4 (.bool (s.1.1.foldl (repS a9 a10) (a11, true)).2) ∧ V.heap[w.heap.size]? = some (.cells #[.int .i64 a0, .int .i64 a1, .int .i64 a2, .int .i64 a3, .int .i64 a4, .int .i64 a5, .int .i64 a6, .int .i64 a7, .bool a8, .int .i64 a9, .int .i64 a10, .int .i64 a11] 23 (0, 0)) ∧ Below w.heap.size w V ∧ w.heap.size + 6 ≤ V.heap.size)
  ?hI2 (fun U U' hs hU => ⟨hU.mono (by omega), fun k hk => hU.block k (by omega)⟩) ?assign ?body ?done (fun D c pre V _ _ h _ => h.elim)
 case hI =>
  rintro s U U' row ⟨h1, h2, h3, h4, h5⟩ hg hr
  have hne : ∀ k, k < w.heap.size + 6 → some k ≠ row := fun k hk e => by have := (hr k e.symm).1; omega
  exact ⟨h1.kept hg (hne _ (by omega)), h2.kept hg (hne _ (by omega)), (hg.block _ (by omega) (hne _ (by omega))).trans h3, h4.grown hg h4.size (fun r e => by have := (hr r e).1; omega), Nat.le_trans h5 hg.size⟩
 case hIc =>
  rintro s U U' hA ⟨h1, h2, h3, h4, h5⟩
  exact ⟨hA.boxed h1 (by omega), hA.boxed h2 (by omega), (hA.block _ (by omega) (by omega)).trans h3, hA.below h4 (by omega) (Nat.le_refl _), Nat.le_trans h5 hA.size⟩
 case hI2 =>
  rintro s U U' row ⟨g, g0, g1, g2, h1, h2, h3, h4, h5⟩ hg hr
  have hne : ∀ k, k < w.heap.size + 6 → some k ≠ row := fun k hk e => by have := (hr k e.symm).1; omega
  refine ⟨g, g0, (hg.block _ (Array.getElem?_eq_some_iff.1 g1).1 (fun e => ?_)).trans g1, g2, h1.kept hg (hne _ (by omega)), h2.kept hg (hne _ (by omega)), (hg.block _ (by omega) (hne _ (by omega))).trans h3, h4.grown hg h4.size (fun r e => by have := (hr r e).1; omega), Nat.le_trans h5 hg.size⟩
  obtain ⟨_, o, ho, hc⟩ := hr g e.symm
  rw [g1] at ho
  cases ho
  cases hc
 case assign =>
  rintro l pre x U K ⟨h1, h2, h3, h4, h5⟩ hlen hK
  obtain ⟨v0, v1, v2, v3, v4, v5⟩ := x
  simp only [Mk.arr] at hK ⊢
  gi_wp2
  exact hK _ _ ⟨U.heap.size, by omega, heap_alloc_new _ _, rfl, h1.alloc _, h2.alloc _, (Below.heap_alloc _ _ _ (by omega)).trans h3, h4.alloc (by omega) _, by simp; omega⟩ ((Below.refl _ U).alloc (Nat.le_refl _) _)
 case body =>
  rintro l pre x a' U ⟨g, g0, g1, e2, h1, h2, h3, h4, h5⟩ hlen
  obtain ⟨v0, v1, v2, v3, v4, v5⟩ := x
  simp only [Mk.arr] at g1 e2 h1 h2
  subst e2
  have hgl := (Array.getElem?_eq_some_iff.1 g1).1
  have q2 : U.cell? ⟨g, 2, none⟩ = some (.int .i64 v2) := by simp [World.cell?, g1]
  have q3 : U.cell? ⟨g, 3, none⟩ = some (.int .i64 v3) := by simp [World.cell?, g1]
  have q4 : U.cell? ⟨g, 4, none⟩ = some (.int .i64 v4) := by simp [World.cell?, g1]
  have k9 : U.cell? ⟨w.heap.size, 9, none⟩ = some (.int .i64 a9) := by simp [World.cell?, h3]
  have k10 : U.cell? ⟨w.heap.size, 10, none⟩ = some (.int .i64 a10) := by simp [World.cell?, h3]
  have hc1 := h1.cell
  have hf1 := h1.frozen
  have hc2 := h2.cell
  have hf2 := h2.frozen
  generalize hs : pre.foldl (repS a9 a10) (a11, true) = s at h1 h2 hc1 hc2
  obtain ⟨sx, sb⟩ := s
  simp only at h1 h2 hc1 hc2
  have kb : ∀ {A B : World}, Below A.heap.size A B → KeepsOthers A B := fun h => ⟨h.size, fun k o hk _ => (h.block k (Array.getElem?_eq_some_iff.1 hk).1).trans hk⟩
  have mid : ∀ (b : Bool) (w2 : World), Below (U.setCell ⟨w.heap.size + 1 + 1 + 1, 0, none⟩ (.bool b)).heap.size (U.setCell ⟨w.heap.size + 1 + 1 + 1, 0, none⟩ (.bool b)) w2 →
   Boxed w2 (w.heap.size + 1 + 1) 3 (.int .i64 sx) ∧ Boxed w2 (w.heap.size + 1 + 1 + 1) 4 (.bool b) ∧ w2.heap[w.heap.size]? = some (.cells #[.int .i64 a0, .int .i64 a1, .int .i64 a2, .int .i64 a3, .int .i64 a4, .int .i64 a5, .int .i64 a6, .int .i64 a7, .bool a8, .int .i64 a9, .int .i64 a10, .int .i64 a11] 23 (0, 0)) ∧ KeepsOthers U w2 ∧ Below w.heap.size w w2 ∧ KpR w.heap.size U w2 ∧ w.heap.size + 6 ≤ w2.heap.size := by
   intro b w2 hb
   have hsz1 : (U.setCell ⟨w.heap.size + 1 + 1 + 1, 0, none⟩ (.bool b)).heap.size = U.heap.size := by simp [World.setCell]
   have o : ∀ k, k ≠ w.heap.size + 1 + 1 + 1 → k < U.heap.size → w2.heap[k]? = U.heap[k]? := fun k hk hl => (hb.block k (by rw [hsz1]; exact hl)).trans (Below.heap_setCell U ⟨w.heap.size + 1 + 1 + 1, 0, none⟩ _ k hk)
   refine ⟨(o _ (by omega) (by omega)).trans h1, (hb.block _ (by rw [hsz1]; omega)).trans (h2.set _), (o _ (by omega) (by omega)).trans h3, (KeepsOthers.setCell U _ _).trans (kb hb), ?_, ⟨?_, fun k hk => o k (by omega) (by omega)⟩, by have := hb.size; omega⟩
   · exact (h4.setCell (p := ⟨w.heap.size + 1 + 1 + 1, 0, none⟩) (by show w.heap.size ≤ w.heap.size + 1 + 1 + 1; omega) _).trans (hb.mono (by omega))
   · exact ((Below.refl _ U).setCell (p := ⟨w.heap.size + 1 + 1 + 1, 0, none⟩) (by show w.heap.size ≤ w.heap.size + 1 + 1 + 1; omega) _).trans (hb.mono (by omega))
  have fin : ∀ (b : Bool) (w2 : World), Below (U.setCell ⟨w.heap.size + 1 + 1 + 1, 0, none⟩ (.bool b)).heap.size (U.setCell ⟨w.heap.size + 1 + 1 + 1, 0, none⟩ (.bool b)) w2 → b = (sb && sx == v4) →
   KeepsFrom W6.heap.size U (w2.setCell ⟨w.heap.size + 1 + 1, 0, none⟩ (.int .i64 (ap v2 v3 sx a9 a10).y1)) ∧ KpR w.heap.size U (w2.setCell ⟨w.heap.size + 1 + 1, 0, none⟩ (.int .i64 (ap v2 v3 sx a9 a10).y1)) ∧
   (fun (pre : List Mk) (V : World) => Boxed V (w.heap.size + 1 + 1) 3 (.int .i64 (pre.foldl (repS a9 a10) (a11, true)).1) ∧ Boxed V (w.heap.size + 1 + 1 + 1) 4 (.bool (pre.foldl (repS a9 a10) (a11, true)).2) ∧ V.heap[w.heap.size]? = some (.cells #[.int .i64 a0, .int .i64 a1, .int .i64 a2, .int .i64 a3, .int .i64 a4, .int .i64 a5, .int .i64 a6, .int .i64 a7, .bool a8, .int .i64 a9, .int .i64 a10, .int .i64 a11] 23 (0, 0)) ∧ Below w.heap.size w V ∧ w.heap.size + 6 ≤ V.heap.size) (pre ++ [⟨v0, v1, v2, v3, v4, v5⟩]) (w2.setCell ⟨w.heap.size + 1 + 1, 0, none⟩ (.int .i64 (ap v2 v3 sx a9 a10).y1)) := by
   intro b w2 hb hbv
   obtain ⟨m1, m2, m3, m4, m5, m6, m7⟩ := mid b w2 hb
   have hfold : (pre ++ [(⟨v0, v1, v2, v3, v4, v5⟩ : Mk)]).foldl (repS a9 a10) (a11, true) = ((ap v2 v3 sx a9 a10).y1, b) := by
    rw [List.foldl_append, hs, hbv]
    rfl
   have o : ∀ k, k ≠ w.heap.size + 1 + 1 → (w2.setCell ⟨w.heap.size + 1 + 1, 0, none⟩ (.int .i64 (ap v2 v3 sx a9 a10).y1)).heap[k]? = w2.heap[k]? := fun k hk => Below.heap_setCell w2 ⟨w.heap.size + 1 + 1, 0, none⟩ _ k hk
   have hb3 : Below w.heap.size w2 (w2.setCell ⟨w.heap.size + 1 + 1, 0, none⟩ (.int .i64 (ap v2 v3 sx a9 a10).y1)) := (Below.refl _ w2).setCell (p := ⟨w.heap.size + 1 + 1, 0, none⟩) (by show w.heap.size ≤ w.heap.size + 1 + 1; omega) _
   refine ⟨(m4.trans (KeepsOthers.setCell w2 _ _)).from _, m6.trans ⟨hb3, fun k hk => o k (by omega)⟩, ?_⟩
   simp only [hfold]
   exact ⟨m1.set _, (o _ (by omega)).trans m2, (o _ (by omega)).trans m3, m5.trans hb3, by simp [World.setCell]; omega⟩
  cases sb with
  | true =>
    gi_wp2
    refine ⟨trivial, (CallsIn.inRound l (callsIn_wide.2 (oper_Apply.calls 0 v2 v3 sx a9 a10 _ _ _ rfl))).mono ?_⟩
    rintro e w2 ⟨rfl, hb2⟩
    obtain ⟨m1, m2, m3, m4, m5, m6, m7⟩ := mid _ w2 hb2
    have mc := m1.cell
    have mf := m1.frozen
    gi_wp2
    exact fin _ w2 hb2 (by simp)
  | false =>
    gi_wp2
    refine ⟨trivial, (CallsIn.inRound l (callsIn_wide.2 (oper_Apply.calls 0 v2 v3 sx a9 a10 _ _ _ rfl))).mono ?_⟩
    rintro e w2 ⟨rfl, hb2⟩
    obtain ⟨m1, m2, m3, m4, m5, m6, m7⟩ := mid _ w2 hb2
    have mc := m1.cell
    have mf := m1.frozen
    gi_wp2
    exact fin _ w2 hb2 (by simp)
 case done =>
  rintro D ys V hD rfl ⟨h1, h2, h3, h4, h5⟩ hK
  have hc1 := h1.cell
  have hf1 := h1.frozen
  have hc2 := h2.cell
  have hf2 := h2.frozen
  gi_wp2
  gi_region
  all_goals gi_wp2
  have hK' : V.drew.heap[D]? = some (.deferred (some [])) := hK
  refine ⟨by simp, .inl ⟨_, _, rfl, run_takeDeferred hK', ?_⟩⟩
  refine ⟨.tuple #[.int .i64 (ys.foldl (repS a9 a10) (a11, true)).1, .bool (ys.foldl (repS a9 a10) (a11, true)).2], ?_, by rw [hfs], h4.drew.trans (belowK_b (w := w) (Nat.le_refl _) _ D _ _ (by omega) hK' rfl rfl)⟩
  simp [results, Tryz.f32, go_sem]
end
set_option maxRecDepth 10000
section
open Go.Shelf Go.Boxes
attribute [local go_sem] Oper.semAt_some
theorem ZyH : (Tryz.prog.info? 52).map (fun i => (i.zero, i.size, i.bytes)) = some (some (.agg #[.int .i64 0, .int .i64 0, .int .i64 0, .int .i64 0, .int .i64 0, .int .i64 0]), 6, 48) := by kernel_rfl
theorem Qz8 (w : World) (xs : Array Value) (t : TypeId) : ∀ j u, xs.toList[j]? = some u → (w.alloc (.cells xs t)).cell? ((⟨w.heap.size, 0, none⟩ : Addr).add j) = some u := by
 intro j u hj
 have ha : (⟨w.heap.size, 0, none⟩ : Addr).add j = ⟨w.heap.size, 0 + j, none⟩ := by unfold Addr.add; split <;> simp_all
 have hn := heap_alloc_new w (.cells xs t)
 rw [ha]
 simp only [World.cell?, hn]
 simpa using hj
def Yh (ms : List Mk) : List Value := ms.flatMap fun m => m.arr.toList
set_option maxRecDepth 100000 in
set_option maxHeartbeats 4000000 in
theorem Jzq (B n₀ gt : Nat) (caps : Array Value) (t : Mk → Bool) (K : Nat → Prop) (hK0 : K B) (hK1 : K (B + 1)) (hB : n₀ ≤ B) (A : Option Addr) (c : Nat) (es : List Mk) (w0 : World) (hn0 : n₀ = w0.heap.size) (hC : MkC w0 A es) (hsm : es.length < 1000000)
 (w : World) (hw : Below n₀ w0 w) (hKw : ∀ k, K k → k < w.heap.size) (b0 : Boxed w B 36 (.slice A es.length c)) (b1 : Boxed w (B + 1) 105 (.func (.func gt) #[] caps))
 (hgt : ∀ args w, (callFunc gt args).run Tryz.prog w = .ok (.enter gt args) w)
 (hT : ∀ (x : Mk) (V : World), Below n₀ w0 V → (∀ k, K k → V.heap[k]? = w.heap[k]?) → Calls Tryz.prog gt (#[.agg x.arr] ++ caps) V fun e V' => e = .returned (.bool (t x)) ∧ Below V.heap.size V V') :
 CallsIn Fence.wide 9 Tryz.prog 70 #[.slice none 0 0, .func (.func 67) #[] #[.pointer (some ⟨B, 0, none⟩), .pointer (some ⟨B + 1, 0, none⟩)]] w fun e w' => ∃ v, e = .returned v ∧ w'.ownsRow (w.heap.size + 1) 52 6 v (es.filter t).length (Yh (es.filter t)) ∧ Below w.heap.size w w' := by
 obtain ⟨i0, hi0, hz0, hz1, hz2⟩ := info_parts ZyH
 have hwn : n₀ ≤ w.heap.size := by have := hw.size; omega
 refine callsIn_of_wp_marks Tryz.func70 rfl trivial ?_ rfl
 simp only [Tryz.ntmps70, List.size_toArray, List.length_cons, List.length_nil, Nat.reduceAdd, Nat.reduceSub, Array.replicate_succ, Array.replicate_zero, List.push_toArray, List.append_toArray, List.nil_append, List.cons_append]
 have bx := Boxed.new w 36 (.slice none 0 0)
 have hB0 : Below w.heap.size w (w.alloc (.cells #[.slice none 0 0] 36)) := (Below.refl _ w).alloc (Nat.le_refl _) _
 have hB1 := hw.alloc hwn (.cells #[.slice none 0 0] 36)
 obtain ⟨W1, hW1⟩ : ∃ W1, w.alloc (.cells #[.slice none 0 0] 36) = W1 := ⟨_, rfl⟩
 have hsz : W1.heap.size = w.heap.size + 1 := by rw [← hW1]; simp
 have hkeep1 : ∀ k, k < w.heap.size → W1.heap[k]? = w.heap[k]? := fun k hk => by rw [← hW1]; exact Below.heap_alloc _ _ _ hk
 gi_wp2
 rw [hW1] at bx hB0 hB1
 generalize hfs : es.filter t = fs
 have hfl : fs.length < 1000000 := by rw [← hfs]; exact Nat.lt_of_le_of_lt (List.length_filter_le _ _) hsm
 refine J3 rfl (by omega) (gf := 67) (lb := #[.pointer (some ⟨B, 0, none⟩), .pointer (some ⟨B + 1, 0, none⟩)]) rfl trivial (enters_of Tryz.func67 (by kernel_rfl) rfl) (encs := fun m : Mk => #[.agg m.arr]) (Kp := fun U U' => Below n₀ U U' ∧ ∀ k, K k → U'.heap[k]? = U.heap[k]?) (S := fun ys => ys = fs) (Sp := fun pre => pre <+: fs) (N := fs.length) (fun _ => rfl)
  (fun h k => ⟨h.1.trans k.1, fun q hq => (k.2 q hq).trans (h.2 q hq)⟩)
  (fun V l o' hl => ⟨⟨rfl, rfl, rfl, by simp, fun k hk => World.putObj_heap_other (by omega)⟩, fun k hk => World.putObj_heap_other (by have := hKw k hk; omega)⟩)
  (fun l J Jx V hV hJc hY h0 => by
    have hkeep : ∀ k, k < w.heap.size → V.heap[k]? = w.heap[k]? := fun k hk => (hV.block k (by omega)).trans (hkeep1 k hk)
    rw [← hfs] at hY ⊢
    exact Yzq 8 (by omega) l B n₀ gt caps t K hK0 hK1 hB A c es w0 hn0 hC hsm V (hB1.trans (hV.mono (by omega))) (fun k hk => by have := hKw k hk; have := hV.size; omega) ((hkeep _ (hKw _ hK0)).trans b0) ((hkeep _ (hKw _ hK1)).trans b1) hgt
     (fun m U hU hK => hT m U hU (fun k hk => (hK k hk).trans (hkeep k (hKw k hk))))
     J Jx hJc (fun pre m U hJ hlen => hY pre m U hJ hlen) h0)
  (fun pre V => (∃ v : Value, Boxed V w.heap.size 36 v ∧ V.ownsRow (w.heap.size + 1) 52 6 v pre.length (Yh pre) ∧ True) ∧ Below w.heap.size w V ∧ w.heap.size + 1 ≤ V.heap.size)
  (fun _ _ _ => False)
  (OwnFrom.and (Own.from (holdsRow_own (w.heap.size + 1) w.heap.size 36 52 6 (fun (pre : List Mk) => pre.length) (fun (pre : List Mk) => Yh pre) (fun (pre : List Mk) (v : Value) => True)) _) (fun s U U' row hs hg hr => ⟨hs.1.grown hg hs.1.size (fun r e => by have := (hr r e).1; omega), Nat.le_trans hs.2 hg.size⟩))
  (fun _ _ _ _ _ hs _ _ => hs) ?hIc ⟨⟨_, bx, World.ownsRow_nil _ _ _ _, trivial⟩, hB0, by omega⟩
  (fun s V => ∃ g, w.heap.size + 1 ≤ g ∧ V.heap[g]? = some (.cells s.1.2.arr 52 (0, 0)) ∧ s.2 = { tmps := #[.slice none 0 0, .func (.func 67) #[] #[.pointer (some ⟨B, 0, none⟩), .pointer (some ⟨B + 1, 0, none⟩)], .pointer (some ⟨w.heap.size, 0, none⟩), undef, .slice none 0 0, .pointer (some ⟨g, 0, none⟩), .func (.func 67) #[] #[.pointer (some ⟨B, 0, none⟩), .pointer (some ⟨B + 1, 0, none⟩)], .agg s.1.2.arr, undef, undef, undef, undef, undef], defers := [] } ∧
    (∃ v : Value, Boxed V w.heap.size 36 v ∧ V.ownsRow (w.heap.size + 1) 52 6 v s.1.1.length (Yh s.1.1) ∧ some g ≠ v.ownBlock) ∧ Below w.heap.size w V ∧ w.heap.size + 1 ≤ V.heap.size)
  ?hI2 (fun U U' hs hU => ⟨hU.mono (by omega), fun k hk => hU.block k (by have := hKw k hk; omega)⟩) ?assign ?body ?done (fun D c pre V _ _ h _ => h.elim)
 case hIc =>
  rintro s U U' hU ⟨⟨v, h1, h2, _⟩, h4, h5⟩
  have hg : U.grownBy U' none := ⟨hU.os, hU.tape, hU.output, hU.size, fun i hi _ => hU.block i hi⟩
  refine ⟨⟨v, (hU.block _ h1.lt).trans h1, h2.kept hg ?_, trivial⟩, h4.trans (hU.mono (by omega)), Nat.le_trans h5 hU.size⟩
  rcases h2.2 with ⟨rfl, _⟩ | ⟨g, cap, cur, rfl, hb, _, _⟩
  · exact .inl rfl
  · exact .inr fun e => by simp [Value.ownBlock] at e
 case hI2 =>
  rintro ⟨⟨pre, x⟩, a'⟩ U U' row ⟨g, g0, g1, g2, hv, h4, h5⟩ hg hr
  have hne : ∀ k, k < w.heap.size + 1 → some k ≠ row := fun k hk e => by have := (hr k e.symm).1; omega
  refine ⟨g, g0, (hg.block _ (Array.getElem?_eq_some_iff.1 g1).1 (fun e => ?_)).trans g1, g2, holdsRow_own (w.heap.size + 1) w.heap.size 36 52 6 (fun (pre : List Mk) => pre.length) (fun (pre : List Mk) => Yh pre) (fun (pre : List Mk) (v : Value) => some g ≠ v.ownBlock) pre U U' row hv hg (fun r e => (hr r e).2), h4.grown hg h4.size (fun r e => by have := (hr r e).1; omega), Nat.le_trans h5 hg.size⟩
  obtain ⟨_, o, ho, hc⟩ := hr g e.symm
  rw [g1] at ho
  cases ho
  cases hc
 case assign =>
  rintro l pre x U K' ⟨⟨v, h1, h2, _⟩, h4, h5⟩ hlen hK
  obtain ⟨v0, v1, v2, v3, v4, v5⟩ := x
  simp only [Mk.arr] at hK ⊢
  gi_wp2
  refine hK _ _ ⟨U.heap.size, by omega, heap_alloc_new _ _, rfl, ⟨v, h1.alloc _, h2.alloc _, ?_⟩, h4.alloc (by omega) _, by simp; omega⟩ ((Below.refl _ U).alloc (Nat.le_refl _) _)
  rcases h2.2 with ⟨rfl, _⟩ | ⟨g, cap, cur, rfl, hb, hgb, _⟩
  · simp [Value.ownBlock]
  · have := (Array.getElem?_eq_some_iff.1 hgb).1
    simp [Value.ownBlock]
    omega
 case body =>
  rintro l pre x a' U ⟨g, g0, g1, e2, ⟨v, h1, h2, h6⟩, h4, h5⟩ hlen
  obtain ⟨v0, v1, v2, v3, v4, v5⟩ := x
  simp only [Mk.arr] at g1 e2 h1 h2 h6
  subst e2
  have hgl := (Array.getElem?_eq_some_iff.1 g1).1
  have q0 : U.cell? ⟨g, 0, none⟩ = some (.int .i64 v0) := by simp [World.cell?, g1]
  have q1 : U.cell? ⟨g, 1, none⟩ = some (.int .i64 v1) := by simp [World.cell?, g1]
  have q2 : U.cell? ⟨g, 2, none⟩ = some (.int .i64 v2) := by simp [World.cell?, g1]
  have q3 : U.cell? ⟨g, 3, none⟩ = some (.int .i64 v3) := by simp [World.cell?, g1]
  have q4 : U.cell? ⟨g, 4, none⟩ = some (.int .i64 v4) := by simp [World.cell?, g1]
  have q5 : U.cell? ⟨g, 5, none⟩ = some (.int .i64 v5) := by simp [World.cell?, g1]
  have hc := h1.cell
  have hown0 : ∀ k, k < w.heap.size + 1 → some k ≠ v.ownBlock := by
   intro k hk
   rcases h2.2 with ⟨rfl, _⟩ | ⟨g, cap, cur, rfl, hb, _, _⟩
   · simp [Value.ownBlock]
   · intro e; simp [Value.ownBlock] at e; omega
  gi_wp2_with (gi_at_builtin; refine wpListIn_append_own _ rfl _ _ 36 rfl (w.heap.size + 1) 52 i0 _ 6 48 Tryz.underlying36 hi0 hz0 hz1 hz2 rfl (by decide) _ _ _ rfl (h2.alloc _) ⟨U.heap.size, 0, none⟩ 1 1 [.int .i64 v0, .int .i64 v1, .int .i64 v2, .int .i64 v3, .int .i64 v4, .int .i64 v5] rfl rfl (Qz8 _ _ _) (by simp [Value.oneCell']) (by unfold maxLen; omega) (by omega) (by simp; omega) ?_; intro v' w1 hown' hgrow _; obtain ⟨g', cap', rfl⟩ := ownsRow_succ hown'; obtain ⟨hv1, hv2, hr2, hk2, hb2⟩ := h1.appended (n₀ := w.heap.size) (by decide) (QY h2 (by omega)) (by omega) (Nat.le_refl _) (QY hown' (by omega)) hgrow; have hc1 := hv1.cell; have hf1 := hv1.frozen)
  have hg' : w.heap.size + 1 ≤ g' := by
   rcases hown'.2 with ⟨e, _⟩ | ⟨g, cap, cur, e, hb, _, _⟩
   · cases e
   · cases e; exact hb
  have hkk : ∀ k, K k → (w1.setCell ⟨w.heap.size, 0, none⟩ (.slice (some ⟨g', 0, none⟩) (pre.length + 1) cap')).heap[k]? = U.heap[k]? := fun k hk => by
   have := hKw k hk
   exact (Below.heap_setCell w1 ⟨w.heap.size, 0, none⟩ _ k (by show k ≠ w.heap.size; omega)).trans ((hgrow.block k (by simp; omega) (hown0 k (by omega))).trans (Below.heap_alloc _ _ _ (by omega)))
  have hcat : Yh (pre ++ [(⟨v0, v1, v2, v3, v4, v5⟩ : Mk)]) = Yh pre ++ [.int .i64 v0, .int .i64 v1, .int .i64 v2, .int .i64 v3, .int .i64 v4, .int .i64 v5] := by simp [Yh, Mk.arr]
  refine ⟨hk2.from _, ⟨hb2.mono hwn, hkk⟩, ⟨_, hv2, ?_, trivial⟩, h4.trans hb2, by have := hk2.size; omega⟩
  rw [hcat, List.length_append, List.length_singleton]
  exact hown'.kept (grownBy_setCell' w1 w.heap.size _) (.inr (by simp [Value.ownBlock]; omega))
 case done =>
  rintro D ys V hD rfl ⟨⟨v, hv, hrow, _⟩, h4, h5⟩ hK
  have hc := hv.cell
  have hf := hv.frozen
  gi_wp2
  refine ⟨by simp, .inl ⟨_, _, rfl, run_takeDeferred hK, ?_⟩⟩
  refine ⟨v, ?_, v, rfl, by rw [hfs]; exact ownsRow_putObj hrow _ hK rfl, h4.trans (belowK_b (w := w) (Nat.le_refl _) _ D _ _ (by omega) hK rfl rfl)⟩
  simp [results, Tryz.f70, go_sem]
end
set_option maxRecDepth 10000
def mkOf (e : List PV) : Mk := ⟨pInt (e.headD PV.undef), pInt (e.tail.headD PV.undef), pInt (e.tail.tail.headD PV.undef), pInt (e.tail.tail.tail.headD PV.undef), pInt (e.tail.tail.tail.tail.headD PV.undef), pInt (e.tail.tail.tail.tail.tail.headD PV.undef)⟩
theorem Zyl {P : Program} {w : World} {S : Nat → Nat → Prop} {e : List PV} {us : List Value} (hc : cfs [.int .i64, .int .i64, .int .i64, .int .i64, .int .i64, .int .i64] e) (h : VPs P w S e us) : us = [.int .i64 (mkOf e).f0, .int .i64 (mkOf e).f1, .int .i64 (mkOf e).f2, .int .i64 (mkOf e).f3, .int .i64 (mkOf e).f4, .int .i64 (mkOf e).f5] := by
 match e, hc with
 | [a0, a1, a2, a3, a4, a5], hc =>
   obtain ⟨⟨x0, rfl⟩, ⟨x1, rfl⟩, ⟨x2, rfl⟩, ⟨x3, rfl⟩, ⟨x4, rfl⟩, ⟨x5, rfl⟩, _⟩ := hc
   simp only [VPs, VP] at h
   obtain ⟨_, _, rfl, rfl, _, _, rfl, rfl, _, _, rfl, rfl, _, _, rfl, rfl, _, _, rfl, rfl, _, _, rfl, rfl, rfl⟩ := h
   rfl
theorem jzP : jy Tryz.prog 52 = [.int .i64, .int .i64, .int .i64, .int .i64, .int .i64, .int .i64] := by kernel_rfl
theorem qE {w : World} {S : Nat → Nat → Prop} {A : Option Addr} {us : List Value} {xs : List (List PV)} (hcf : ∀ e ∈ xs, cfs (jy Tryz.prog 52) e) (hl : Lies w S A us) (hs : VPss Tryz.prog w S xs us) : MkC w A (xs.map mkOf) := by
 rw [jzP] at hcf
 have hn : ∀ e ∈ xs, e.length = 6 := fun e he => (hcf e he).length
 have hlen := hs.length hn
 intro j hj
 have hj' : j < xs.length := by simpa using hj
 have hel : MkAt (xs.map mkOf) j = mkOf xs[j] := by
  unfold MkAt
  simp [List.getD_eq_getElem?_getD, hj']
 have hp := Zyl (hcf _ (List.getElem_mem hj')) (hs.get hn (i := j) (List.getElem?_eq_getElem hj'))
 have g : ∀ k, k < 6 → us[j * 6 + k]? = ([.int .i64 (mkOf xs[j]).f0, .int .i64 (mkOf xs[j]).f1, .int .i64 (mkOf xs[j]).f2, .int .i64 (mkOf xs[j]).f3, .int .i64 (mkOf xs[j]).f4, .int .i64 (mkOf xs[j]).f5])[k]? := by
  intro k hk
  rw [← hp, List.getElem?_take, if_pos hk, List.getElem?_drop]
 rcases hl with hu | ⟨b, o, rfl, hr, _⟩
 · subst hu
   simp at hlen
   omega
 have c0 := hr (j * 6 + 0) _ ((g 0 (by omega)).trans rfl)
 have c1 := hr (j * 6 + 1) _ ((g 1 (by omega)).trans rfl)
 have c2 := hr (j * 6 + 2) _ ((g 2 (by omega)).trans rfl)
 have c3 := hr (j * 6 + 3) _ ((g 3 (by omega)).trans rfl)
 have c4 := hr (j * 6 + 4) _ ((g 4 (by omega)).trans rfl)
 have c5 := hr (j * 6 + 5) _ ((g 5 (by omega)).trans rfl)
 rw [hel]
 have hlt : b < w.heap.size := jzl c0
 refine ⟨⟨b, o, none⟩, rfl, hlt, ?_, ?_, ?_, ?_, ?_, ?_⟩
 · rw [Addr.add_mid]; exact c0
 · rw [Addr.add_mid]; rw [← Nat.add_assoc] at c1; exact c1
 · rw [Addr.add_mid]; rw [← Nat.add_assoc] at c2; exact c2
 · rw [Addr.add_mid]; rw [← Nat.add_assoc] at c3; exact c3
 · rw [Addr.add_mid]; rw [← Nat.add_assoc] at c4; exact c4
 · rw [Addr.add_mid]; rw [← Nat.add_assoc] at c5; exact c5
def evOf (e : List PV) : Ev := ⟨pInt (e.headD PV.undef), pInt (e.tail.headD PV.undef), pInt (e.tail.tail.headD PV.undef), pInt (e.tail.tail.tail.headD PV.undef), pInt (e.tail.tail.tail.tail.headD PV.undef), pInt (e.tail.tail.tail.tail.tail.headD PV.undef), jb (e.tail.tail.tail.tail.tail.tail.headD PV.undef), pInt (e.tail.tail.tail.tail.tail.tail.tail.headD PV.undef)⟩
theorem Yyl {P : Program} {w : World} {S : Nat → Nat → Prop} {e : List PV} {us : List Value} (hc : cfs [.int .i64, .int .i64, .int .i64, .int .i64, .int .i64, .int .i64, .bool, .int .i64] e) (h : VPs P w S e us) : us = [.int .i64 (evOf e).f0, .int .i64 (evOf e).f1, .int .i64 (evOf e).f2, .int .i64 (evOf e).f3, .int .i64 (evOf e).f4, .int .i64 (evOf e).f5, .bool (evOf e).f6, .int .i64 (evOf e).f7] := by
 match e, hc with
 | [a0, a1, a2, a3, a4, a5, a6, a7], hc =>
   obtain ⟨⟨x0, rfl⟩, ⟨x1, rfl⟩, ⟨x2, rfl⟩, ⟨x3, rfl⟩, ⟨x4, rfl⟩, ⟨x5, rfl⟩, ⟨x6, rfl⟩, ⟨x7, rfl⟩, _⟩ := hc
   simp only [VPs, VP] at h
   obtain ⟨_, _, rfl, rfl, _, _, rfl, rfl, _, _, rfl, rfl, _, _, rfl, rfl, _, _, rfl, rfl, _, _, rfl, rfl, _, _, rfl, rfl, _, _, rfl, rfl, rfl⟩ := h
   rfl
theorem ZzP : jy Tryz.prog 64 = [.int .i64, .int .i64, .int .i64, .int .i64, .int .i64, .int .i64, .bool, .int .i64] := by kernel_rfl
theorem Jz8 {w : World} {S : Nat → Nat → Prop} {A : Option Addr} {us : List Value} {xs : List (List PV)} (hcf : ∀ e ∈ xs, cfs (jy Tryz.prog 64) e) (hl : Lies w S A us) (hs : VPss Tryz.prog w S xs us) : EvC w A (xs.map evOf) := by
 rw [ZzP] at hcf
 have hn : ∀ e ∈ xs, e.length = 8 := fun e he => (hcf e he).length
 have hlen := hs.length hn
 intro j hj
 have hj' : j < xs.length := by simpa using hj
 have hel : EvAt (xs.map evOf) j = evOf xs[j] := by
  unfold EvAt
  simp [List.getD_eq_getElem?_getD, hj']
 have hp := Yyl (hcf _ (List.getElem_mem hj')) (hs.get hn (i := j) (List.getElem?_eq_getElem hj'))
 have g : ∀ k, k < 8 → us[j * 8 + k]? = ([.int .i64 (evOf xs[j]).f0, .int .i64 (evOf xs[j]).f1, .int .i64 (evOf xs[j]).f2, .int .i64 (evOf xs[j]).f3, .int .i64 (evOf xs[j]).f4, .int .i64 (evOf xs[j]).f5, .bool (evOf xs[j]).f6, .int .i64 (evOf xs[j]).f7])[k]? := by
  intro k hk
  rw [← hp, List.getElem?_take, if_pos hk, List.getElem?_drop]
 rcases hl with hu | ⟨b, o, rfl, hr, _⟩
 · subst hu
   simp at hlen
   omega
 have c0 := hr (j * 8 + 0) _ ((g 0 (by omega)).trans rfl)
 have c1 := hr (j * 8 + 1) _ ((g 1 (by omega)).trans rfl)
 have c2 := hr (j * 8 + 2) _ ((g 2 (by omega)).trans rfl)
 have c3 := hr (j * 8 + 3) _ ((g 3 (by omega)).trans rfl)
 have c4 := hr (j * 8 + 4) _ ((g 4 (by omega)).trans rfl)
 have c5 := hr (j * 8 + 5) _ ((g 5 (by omega)).trans rfl)
 have c6 := hr (j * 8 + 6) _ ((g 6 (by omega)).trans rfl)
 have c7 := hr (j * 8 + 7) _ ((g 7 (by omega)).trans rfl)
 rw [hel]
 have hlt : b < w.heap.size := jzl c0
 refine ⟨⟨b, o, none⟩, rfl, hlt, ?_, ?_, ?_, ?_, ?_, ?_, ?_, ?_⟩
 · rw [Addr.add_mid]; exact c0
 · rw [Addr.add_mid]; rw [← Nat.add_assoc] at c1; exact c1
 · rw [Addr.add_mid]; rw [← Nat.add_assoc] at c2; exact c2
 · rw [Addr.add_mid]; rw [← Nat.add_assoc] at c3; exact c3
 · rw [Addr.add_mid]; rw [← Nat.add_assoc] at c4; exact c4
 · rw [Addr.add_mid]; rw [← Nat.add_assoc] at c5; exact c5
 · rw [Addr.add_mid]; rw [← Nat.add_assoc] at c6; exact c6
 · rw [Addr.add_mid]; rw [← Nat.add_assoc] at c7; exact c7
def s32 : List PK := [S23k, (false, [.list 52]), (false, [.int .i64])]
noncomputable def repA (ps : List PV) : Int × Bool := ((((Zy (ps.tail.headD PV.undef)).map mkOf).filter fun m => m.f1 == pInt (ps.tail.tail.headD PV.undef)).foldl (repS (S23r (ps.headD PV.undef)).a9 (S23r (ps.headD PV.undef)).a10) ((S23r (ps.headD PV.undef)).a11, true))
noncomputable def f32P : Ora := ⟨fun ps => okPs s32 ps && decide ((Zy (ps.tail.headD PV.undef)).length < 1000000), fun ps => .pv (.tup [.int .i64 (repA ps).1, .bool (repA ps).2])⟩
theorem zz9 : Spec Tryz.prog 32 f32P := by
 intro w S ps vs hS hv hp
 have hp' : (okPs s32 ps && decide ((Zy (ps.tail.headD PV.undef)).length < 1000000)) = true := hp
 simp only [Bool.and_eq_true, decide_eq_true_eq] at hp'
 have hc := Yr hp'.1
 have hc2 : ym s32 ps = [S23v (S23r (ps.headD PV.undef)), PV.list 52 (Zy (ps.tail.headD PV.undef)), PV.int .i64 (pInt (ps.tail.tail.headD PV.undef))] := by kernel_rfl
 rw [hc2] at hc
 rw [← hc] at hv
 simp only [VPs, VP, S23v] at hv
 obtain ⟨v0, _, rfl, ⟨vs0, rfl, hv0⟩, _, _, rfl, ⟨A, cap, us, rfl, h2, h3, h4, h5⟩, _, _, rfl, rfl, rfl⟩ := hv
 obtain ⟨_, _, rfl, rfl, _, _, rfl, rfl, _, _, rfl, rfl, _, _, rfl, rfl, _, _, rfl, rfl, _, _, rfl, rfl, _, _, rfl, rfl, _, _, rfl, rfl, _, _, rfl, rfl, _, _, rfl, rfl, _, _, rfl, rfl, _, _, rfl, rfl, rfl⟩ := hv0
 have hsm : ((Zy (ps.tail.headD PV.undef)).map mkOf).length < 1000000 := by simpa using hp'.2
 have hq := Yz8 (S23r (ps.headD PV.undef)).a0 (S23r (ps.headD PV.undef)).a1 (S23r (ps.headD PV.undef)).a2 (S23r (ps.headD PV.undef)).a3 (S23r (ps.headD PV.undef)).a4 (S23r (ps.headD PV.undef)).a5 (S23r (ps.headD PV.undef)).a6 (S23r (ps.headD PV.undef)).a7 (S23r (ps.headD PV.undef)).a8 (S23r (ps.headD PV.undef)).a9 (S23r (ps.headD PV.undef)).a10 (S23r (ps.headD PV.undef)).a11 (pInt (ps.tail.tail.headD PV.undef)) A cap _ w (qE h3 h4 h5) hsm
 rw [List.length_map] at hq
 refine (Go.callsIn_wide.1 hq).mono ?_
 rintro e w' ⟨rfl, hb⟩
 refine ⟨_, rfl, hb, ?_⟩
 show VP Tryz.prog w' S (.tup [.int .i64 (repA ps).1, .bool (repA ps).2]) _
 simp only [VP, VPs]
 exact ⟨_, rfl, _, _, rfl, rfl, _, _, rfl, rfl, rfl⟩
set_option maxRecDepth 10000
section
open Go.Shelf Go.Boxes
attribute [local go_sem] Oper.semAt_some
set_option maxHeartbeats 4000000 in
theorem jC (A : Option Addr) (n c : Nat) (t : Int) (w : World) : Calls Tryz.prog 56 #[.slice A n c, .int .i64 t] w fun e w' => e = .returned (.func (.func 80) #[] #[.pointer (some ⟨w.heap.size + 1, 0, none⟩), .pointer (some ⟨w.heap.size + 1 + 1, 0, none⟩)]) ∧ w' = ((w.alloc (.cells #[.int .i64 t] 3)).alloc (.cells #[.slice A n c] 37)).alloc (.cells #[.func (.func 72) #[] #[.pointer (some ⟨w.heap.size, 0, none⟩)]] 137) := by
 go_enter Tryz.func56, Tryz.ntmps56
 go_wp2
 go_ret
 simp
set_option maxHeartbeats 4000000 in
theorem zzp (x : Mk) (b : Nat) (t : Int) (w : World) (h : w.cell? ⟨b, 0, none⟩ = some (.int .i64 t)) : Calls Tryz.prog 55 #[.agg x.arr, .pointer (some ⟨b, 0, none⟩)] w fun e w' => e = .returned (.bool (x.f0 == t)) ∧ Below w.heap.size w w' := by
 have hb := World.block_lt_of_cell? _ _ h
 obtain ⟨v0, v1, v2, v3, v4, v5⟩ := x
 unfold Mk.arr
 have e1 : ∀ o, (w.alloc o).cell? ⟨b, 0, none⟩ = some (.int .i64 t) := fun o => (((Below.refl w.heap.size w).alloc (Nat.le_refl _) o).cell (p := ⟨b, 0, none⟩) hb).trans h
 go_enter Tryz.func55, Tryz.ntmps55
 go_wp2
 go_ret
 exact ⟨by simp, (Below.refl _ _).alloc (Nat.le_refl _) _⟩
set_option maxHeartbeats 4000000 in
theorem yzp (x : Ev) (b : Nat) (t : Int) (w : World) (h : w.cell? ⟨b, 0, none⟩ = some (.int .i64 t)) : Calls Tryz.prog 72 #[.agg x.arr, .pointer (some ⟨b, 0, none⟩)] w fun e w' => e = .returned (.bool (x.f1 == t && x.f0 != 3)) ∧ Below w.heap.size w w' := by
 have hb := World.block_lt_of_cell? _ _ h
 obtain ⟨v0, v1, v2, v3, v4, v5, v6, v7⟩ := x
 unfold Ev.arr
 have e1 : ∀ o, (w.alloc o).cell? ⟨b, 0, none⟩ = some (.int .i64 t) := fun o => (((Below.refl w.heap.size w).alloc (Nat.le_refl _) o).cell (p := ⟨b, 0, none⟩) hb).trans h
 go_enter Tryz.func72, Tryz.ntmps72
 by_cases g : v1 = t
 · go_wp2
   go_ret
   refine ⟨?_, (Below.refl _ _).alloc (Nat.le_refl _) _⟩
   simp [g]
 · go_wp2
   go_ret
   refine ⟨?_, (Below.refl _ _).alloc (Nat.le_refl _) _⟩
   simp [g]
set_option maxRecDepth 100000 in
set_option maxHeartbeats 4000000 in
theorem YzP (B n₀ gt : Nat) (caps : Array Value) (t : Mk → Bool) (K : Nat → Prop) (hK0 : K B) (hK1 : K (B + 1)) (hB : n₀ ≤ B) (A : Option Addr) (c : Nat) (es : List Mk) (w0 : World) (hn0 : n₀ = w0.heap.size) (hC : MkC w0 A es) (hsm : es.length < 1000000)
 (w : World) (hw : Below n₀ w0 w) (hKw : ∀ k, K k → k < w.heap.size) (b0 : Boxed w B 36 (.slice A es.length c)) (b1 : Boxed w (B + 1) 105 (.func (.func gt) #[] caps))
 (hgt : ∀ args w, (callFunc gt args).run Tryz.prog w = .ok (.enter gt args) w)
 (hT : ∀ (x : Mk) (V : World), Below n₀ w0 V → (∀ k, K k → V.heap[k]? = w.heap[k]?) → Calls Tryz.prog gt (#[.agg x.arr] ++ caps) V fun e V' => e = .returned (.bool (t x)) ∧ Below V.heap.size V V') :
 CallsIn Fence.wide 9 Tryz.prog 54 #[.func (.func 67) #[] #[.pointer (some ⟨B, 0, none⟩), .pointer (some ⟨B + 1, 0, none⟩)]] w fun e w' => ∃ v, e = .returned v ∧ w'.ownsRow (w.heap.size + 1) 52 6 v (es.filter t).length (Yh (es.filter t)) ∧ Below w.heap.size w w' := by
 refine callsIn_of_wp Tryz.func54 rfl trivial ?_ rfl
 simp only [Tryz.ntmps54, List.size_toArray, List.length_cons, List.length_nil, Nat.reduceAdd, Nat.reduceSub, Array.replicate_succ, Array.replicate_zero, List.push_toArray, List.append_toArray, List.nil_append, List.cons_append]
 gi_wp2
 refine ⟨trivial, (callsIn_wide.2 (callsIn_wide.1 (Jzq B n₀ gt caps t K hK0 hK1 hB A c es w0 hn0 hC hsm w hw hKw b0 b1 hgt hT))).mono ?_⟩
 rintro e w1 ⟨v, rfl, h1, h2⟩
 gi_wp2
 refine ⟨rfl, _, ?_, v, rfl, h1, h2⟩
 simp [results, Tryz.f54, go_sem]
end
end Go.Proofs.YtgfnpgnfklcicaaGreatS
set_option maxRecDepth 10000
namespace Go.Proofs.YtgfnpgnfklcicaaGreatS
open Go Go.Proofs
noncomputable def E57 (N : Nat) : Env := ((E0 N).add 49 f49O).add 58 f58O
theorem YyH (N : Nat) : (E57 N).Ok := ((ya N).add J8).add Jzc
set_option maxHeartbeats 4000000
structure f57o where
 r0 ::
 (y1 : Bool)
noncomputable def f57W (o : f57o) : Res := (fun y1 => Res.pv (PV.bool y1)) o.y1
noncomputable def Qy5 (x0 : S23) (x1 : S52) (x2 x3 : S64) : Tr f57o := (.test ((f49 0 { a0 := x3.a3, a1 := x3.a4 } x3.a5 x0.a9 x0.a10).isSome) (.test (x3.a3 == x2.a3 && (x3.a4 == x2.a4 && true) && (x3.a2 == x2.a2 && true)) (.test (x3.a3 == x1.a2 && (x3.a4 == x1.a3 && true) && (x3.a2 == x1.a1 && true)) (.test (x1.a4 == x3.a5) (.test (((f49 0 { a0 := x3.a3, a1 := x3.a4 } x3.a5 x0.a9 x0.a10).getD f49d).y2 == x3.a6) (.test (decide (x2.a7 < x1.a5)) (.ret (.r0 (decide (x1.a5 ≤ x3.a7)))) (.ret (.r0 (false)))) (.ret (.r0 (false)))) (.ret (.r0 (false)))) (.ret (.r0 (false)))) (.ret (.r0 (false)))) .fail)
noncomputable def f57 (N : Nat) (x0 : S23) (x1 : S52) (x2 x3 : S64) : Option f57o := Tr.run (Qy5 x0 x1 x2 x3)
theorem qyQ (N : Nat) (x0 : S23) (x1 : S52) (x2 x3 : S64) : (qy (E57 N) 100 57 [(S23v x0), (S52v x1), (S64v x2), (S64v x3)]).run = (f57 N x0 x1 x2 x3).map f57W := (Tr.run_of (by kernel_rfl))
def f57s : List PK := [S23k, S52k, S64k, S64k]
noncomputable def f57a (ps : List PV) : Option f57o := f57 0 (S23r (ps.headD PV.undef)) (S52r (ps.tail.headD PV.undef)) (S64r (ps.tail.tail.headD PV.undef)) (S64r (ps.tail.tail.tail.headD PV.undef))
noncomputable def f57d : f57o := ⟨false⟩
noncomputable def f57O : Ora := Yu f57s f57a f57W f57d
theorem Qyl : Spec Tryz.prog 57 f57O := Qt (YyH 0) qv f57d fun ps => (congrArg (fun l => (qy (E57 0) 100 57 l).run) (by kernel_rfl)).trans (qyQ 0 _ _ _ _)
end Go.Proofs.YtgfnpgnfklcicaaGreatS
namespace Go.Proofs.YtgfnpgnfklcicaaGreatS
open Go Go.Proofs Go.Sort Go.RowKit
def jzy (l : List Oper) : Bool := l.all fun o => match o.op with | .defer _ => false | _ => true
theorem QzP {l : List Oper} (h : jzy l = true) {o : Oper} (ho : o ∈ l) : ∀ c, o.op ≠ .defer c := by
 intro c e
 have := List.all_eq_true.1 h o ho
 rw [e] at this
 cases this
section
variable {F : Fence} {n : Nat} {P : Program} {l : List Oper} {C : World → Prop}
theorem JzP {i : Nat} {a : Act} {K : Act → Prop} {K' : Act → World → Prop} {Q' : Exit → Act → World → Prop} {w : World} (hd : jzy l = true) (hC : C w) (h : ∀ a w', C w' → K a → K' a w')
 (hh : qOpIn F n P l.toArray C i K a) : wpOpIn F n P l.toArray Q' i K' a w := by
 unfold qOpIn at hh
 unfold wpOpIn
 cases ho : l.toArray[i]? with
 | none => rw [ho] at hh; exact h _ _ hC hh
 | some o =>
   rw [ho] at hh
   obtain ⟨ha, hh⟩ := hh
   have hm : o ∈ l := by
    have : l[i]? = some o := by simpa using ho
    exact List.mem_of_getElem? this
   show if _ then _ else _
   cases hw : Region.wanted o (yielded l.toArray a.tmps) with
   | false =>
     rw [hw] at hh
     exact ⟨ha w hC, h _ _ hC hh⟩
   | true =>
     rw [hw] at hh
     obtain ⟨v, h1, h2⟩ := hh
     refine ⟨ha w hC, ?_⟩
     rw [Oper.semAt_eq _ _ _ (QzP hd hm)]
     have h3 := h1 w hC
     unfold Oper.quietAtIn at h3
     revert h3
     cases (execOp a.eval o).run P w with
     | halt x w' => intro h3; exact h3.elim
     | ok x w' =>
       cases x with
       | value u => rintro ⟨rfl, rfl⟩; exact h _ _ hC h2
       | skip => rintro ⟨rfl, rfl⟩; exact h _ _ hC h2
       | enter f args =>
         rintro ⟨rfl, hdp, hc⟩
         exact ⟨hdp, hc.mono fun e w'' he => by obtain ⟨rfl, hw''⟩ := he; exact h _ _ hw'' h2⟩
       | _ => intro h3; exact h3.elim
theorem qzp {Q : Act → Prop} {Q' : Exit → Act → World → Prop} (hd : jzy l = true) (hQ : ∀ a w, C w → Q a → Q' .normal a w) : ∀ (fuel : Nat) (listed : Array Bool) (a : Act) (w : World), C w →
 wpAnyQIn F n P .any l.toArray C Q fuel listed a → wpAnyIn F n P .any l.toArray Q' fuel listed a w
 | 0, _, _, _, hw, h => ⟨h.1, hQ _ _ hw h.2⟩
 | fuel + 1, _, _, _, hw, h => ⟨fun h0 => hQ _ _ hw (h.1 h0), fun i hi => JzP hd hw (fun a' w' hw' => qzp hd hQ fuel _ a' w' hw') (h.2 i hi)⟩
theorem ZZ {id : Nat} {Q : Exit → Act → World → Prop} {a : Act} {w : World} (hd : jzy l = true) (hm : P.follows .mixedOrders = true) (hB : Region.lexB .any l.toArray = true)
 (h : wpQuietIn F n P l.toArray (fun w' => ∃ p : Regrown, w' = Go.Sort.grow (redrawn w p.d) p.os) (fun a' => ∀ w', (∃ p : Regrown, w' = Go.Sort.grow (redrawn w p.d) p.os) → Q .normal a' w') l a) : (Code.region id l.toArray true).wpIn F n P Q a w := by
 have hC : (fun w' => ∃ p : Regrown, w' = Go.Sort.grow (redrawn w p.d) p.os) { w with drawn := w.drawn + 1 } := ⟨⟨w.drawn + 1, #[]⟩, by rw [Go.Sort.grow_empty]; rfl⟩
 have hB' := hB
 simp only [Region.lexB, Bool.and_eq_true] at hB'
 refine wpIn_region_any hm (qzp (Q := fun a' => ∀ w', (∃ p : Regrown, w' = Go.Sort.grow (redrawn w p.d) p.os) → Q .normal a' w') hd (fun _ w' hw' h => h w' hw') _ _ _ _ hC ?_)
 have := wpAnyQIn_lex (F := F) (n := n) (C := fun w' => ∃ p : Regrown, w' = Go.Sort.grow (redrawn w p.d) p.os) (md := .any) hB'.1 l 0 (Array.replicate l.toArray.size false) a (by simp) (by simpa using hB'.2) h
 simpa using this
end
end Go.Proofs.YtgfnpgnfklcicaaGreatS
set_option maxRecDepth 10000
namespace Go.Proofs.YtgfnpgnfklcicaaGreatS
open Go Go.Proofs Go.RowKit Go.Sort
section
open Go.Shelf Go.Boxes
attribute [local go_sem] Oper.semAt_some
theorem Jyl (o : S29) (x lo hi : Int) : (f49 0 o x lo hi).isSome = true := Tr.whole_some (by kernel_rfl)
noncomputable def answ (c : S23) (m : Mk) (cl x : Ev) : Bool := ((f57 0 c ⟨m.f0, m.f1, m.f2, m.f3, m.f4, m.f5⟩ ⟨cl.f0, cl.f1, cl.f2, cl.f3, cl.f4, cl.f5, cl.f6, cl.f7⟩ ⟨x.f0, x.f1, x.f2, x.f3, x.f4, x.f5, x.f6, x.f7⟩).getD f57d).y1
theorem zzO (c : S23) (m : S52) (cl x : S64) : (f57 0 c m cl x).isSome = true := by
 have h : f57 0 c m cl x = Tr.run (Tr.test (x.a3 == cl.a3 && (x.a4 == cl.a4 && true) && (x.a2 == cl.a2 && true)) (.test (x.a3 == m.a2 && (x.a4 == m.a3 && true) && (x.a2 == m.a1 && true)) (.test (m.a4 == x.a5) (.test (((f49 (0 : Nat) { a0 := x.a3, a1 := x.a4 } x.a5 c.a9 c.a10).getD f49d).y2 == x.a6) (.test (decide (cl.a7 < m.a5)) (.ret (.r0 (decide (m.a5 ≤ x.a7)))) (.ret (.r0 (false)))) (.ret (.r0 (false)))) (.ret (.r0 (false)))) (.ret (.r0 (false)))) (.ret (.r0 (false)))) := zz (Jyl _ _ _ _) rfl
 rw [h]
 exact Tr.whole_some (by kernel_rfl)
theorem j4 (a0 : Int) (a1 : Int) (a2 : Int) (a3 : Int) (a4 : Int) (a5 : Int) (a6 : Int) (a7 : Int) (a8 : Bool) (a9 : Int) (a10 : Int) (a11 : Int) (m : Mk) (cl x : Ev) (w : World) : Calls Tryz.prog 57 #[.agg #[.int .i64 a0, .int .i64 a1, .int .i64 a2, .int .i64 a3, .int .i64 a4, .int .i64 a5, .int .i64 a6, .int .i64 a7, .bool a8, .int .i64 a9, .int .i64 a10, .int .i64 a11], .agg m.arr, .agg cl.arr, .agg x.arr] w fun e w' => e = .returned (.bool (answ ⟨a0, a1, a2, a3, a4, a5, a6, a7, a8, a9, a10, a11⟩ m cl x)) ∧ Below w.heap.size w w' := by
 obtain ⟨ps, hps⟩ : ∃ ps, ps = [S23v ⟨a0, a1, a2, a3, a4, a5, a6, a7, a8, a9, a10, a11⟩, S52v ⟨m.f0, m.f1, m.f2, m.f3, m.f4, m.f5⟩, S64v ⟨cl.f0, cl.f1, cl.f2, cl.f3, cl.f4, cl.f5, cl.f6, cl.f7⟩, S64v ⟨x.f0, x.f1, x.f2, x.f3, x.f4, x.f5, x.f6, x.f7⟩] := ⟨_, rfl⟩
 have h1 : okPs f57s ps = true := by rw [hps]; kernel_rfl
 have h2 : f57a ps = f57 0 ⟨a0, a1, a2, a3, a4, a5, a6, a7, a8, a9, a10, a11⟩ ⟨m.f0, m.f1, m.f2, m.f3, m.f4, m.f5⟩ ⟨cl.f0, cl.f1, cl.f2, cl.f3, cl.f4, cl.f5, cl.f6, cl.f7⟩ ⟨x.f0, x.f1, x.f2, x.f3, x.f4, x.f5, x.f6, x.f7⟩ := by rw [hps]; kernel_rfl
 have h3 : f57O.pre ps = true := by
  show (okPs f57s ps && (f57a ps).isSome) = true
  rw [h1, h2, zzO]; rfl
 have h4 : f57O.res ps = .pv (.bool (answ ⟨a0, a1, a2, a3, a4, a5, a6, a7, a8, a9, a10, a11⟩ m cl x)) := by
  show (f57W ((f57a ps).getD f57d)).plain = _
  rw [h2]; rfl
 have h := Qyl w (fun _ _ => False) ps [.agg #[.int .i64 a0, .int .i64 a1, .int .i64 a2, .int .i64 a3, .int .i64 a4, .int .i64 a5, .int .i64 a6, .int .i64 a7, .bool a8, .int .i64 a9, .int .i64 a10, .int .i64 a11], .agg m.arr, .agg cl.arr, .agg x.arr] (fun _ _ h => h.elim) (by
  rw [hps]
  simp only [S23v, S52v, S64v, VPs, VP, Mk.arr, Ev.arr]
  simp [VPs, VP]) h3
 rw [h4] at h
 refine h.mono ?_
 rintro e w' ⟨v, rfl, hb, hr⟩
 have hr : VP Tryz.prog w' (fun _ _ => False) (.bool (answ ⟨a0, a1, a2, a3, a4, a5, a6, a7, a8, a9, a10, a11⟩ m cl x)) v := hr
 simp only [VP] at hr
 exact ⟨by rw [hr], hb⟩
noncomputable def jm (c : S23) (m : Mk) (s : Option (Bool × Bool × Ev)) (x : Ev) : Option (Bool × Bool × Ev) := match s with
 | none => none
 | some (k, op, cl) => bif op == (x.f0 == 1) then none else bif !op then some (k, true, x) else bif k then none else bif answ c m cl x then some (true, false, cl) else none
def ev0 : Ev := ⟨0, 0, 0, 0, 0, 0, false, 0⟩
structure AnsI (w : World) (g P cap : Nat) (cur arr : Array Value) (k op : Bool) (cl : Ev) (V : World) : Prop where
 cc : V.heap[w.heap.size]? = some (.cells arr 23 (0, 0))
 cr : Boxed V (w.heap.size + 1 + 1) 4 (.bool false)
 cg : V.heap[g]? = some (.cells cur 52 (0, 0))
 co : ∃ ow, Boxed V P 36 ow ∧ (k = false → ow = .slice (some ⟨g, 0, none⟩) 1 cap) ∧ (k = true → ∃ A c, ow = .slice A 0 c)
 ck : V.heap[P + 1]? = some (.cells cl.arr 64 (0, 0))
 cb : Boxed V (P + 1 + 1) 4 (.bool op)
 cB : Below w.heap.size w V
 size : P + 6 ≤ V.heap.size
 le : w.heap.size + 1 + 1 < g
 gp : g < P
theorem AnsI.below {w : World} {g P cap : Nat} {cur arr : Array Value} {k op : Bool} {cl : Ev} {V V' : World} (h : AnsI w g P cap cur arr k op cl V) (hb : Below V.heap.size V V') : AnsI w g P cap cur arr k op cl V' := by
 have lt_ : ∀ {k : Nat} {o : Obj}, V.heap[k]? = some o → V'.heap[k]? = some o := fun h => (hb.block _ (Array.getElem?_eq_some_iff.1 h).1).trans h
 obtain ⟨ow, o1, o2⟩ := h.co
 exact ⟨lt_ h.cc, lt_ h.cr, lt_ h.cg, ⟨ow, lt_ o1, o2⟩, lt_ h.ck, lt_ h.cb, h.cB.trans (hb.mono h.cB.size), Nat.le_trans h.size hb.size, h.le, h.gp⟩
theorem AnsI.own {w W6 : World} {g P cap : Nat} {cur arr : Array Value} {k op : Bool} {cl : Ev} {V V' : World} {row : Option Nat} (h : AnsI w g P cap cur arr k op cl V) (h6 : W6.heap.size = P + 6) (hg : V.grownBy V' row) (hr : ∀ r, row = some r → W6.heap.size ≤ r ∧ ∃ o : Obj, V.heap[r]? = some o ∧ o.isCells = false) : AnsI w g P cap cur arr k op cl V' := by
 have lt_ : ∀ {k : Nat} {cs : Array Value} {t : Nat} {z : Nat × Nat}, V.heap[k]? = some (.cells cs t z) → V'.heap[k]? = some (.cells cs t z) := by
  intro k cs t z h
  refine (hg.block _ (Array.getElem?_eq_some_iff.1 h).1 (fun e => ?_)).trans h
  obtain ⟨_, o, ho, hc⟩ := hr k e.symm
  rw [h] at ho
  cases ho
  cases hc
 obtain ⟨ow, o1, o2⟩ := h.co
 exact ⟨lt_ h.cc, lt_ h.cr, lt_ h.cg, ⟨ow, lt_ o1, o2⟩, lt_ h.ck, lt_ h.cb, h.cB.grown hg h.cB.size (fun r e => by have := (hr r e).1; have := h.le; have := h.gp; omega), Nat.le_trans h.size hg.size, h.le, h.gp⟩
theorem AnsI.at {w : World} {g P cap : Nat} {cur arr : Array Value} {k op : Bool} {cl : Ev} {V : World} (h : AnsI w g P cap cur arr k op cl V) {a : Addr} {v : Value} (ha : P ≤ a.block) (ha2 : a.block < P + 1 + 1 + 1) {k' op' : Bool} {cl' : Ev}
 (ho : ∃ ow, Boxed (V.setCell a v) P 36 ow ∧ (k' = false → ow = .slice (some ⟨g, 0, none⟩) 1 cap) ∧ (k' = true → ∃ A c, ow = .slice A 0 c)) (hk : (V.setCell a v).heap[P + 1]? = some (.cells cl'.arr 64 (0, 0))) (hb : Boxed (V.setCell a v) (P + 1 + 1) 4 (.bool op')) : AnsI w g P cap cur arr k' op' cl' (V.setCell a v) := by
 have o : ∀ k, k ≠ a.block → (V.setCell a v).heap[k]? = V.heap[k]? := fun k hk => Below.heap_setCell V a _ k hk
 have := h.le; have := h.gp
 exact ⟨(o _ (by omega)).trans h.cc, (o _ (by omega)).trans h.cr, (o _ (by omega)).trans h.cg, ho, hk, hb, h.cB.setCell (by omega) _, by have := h.size; simpa [World.setCell] using this, h.le, h.gp⟩
theorem AnsI.opened {w : World} {g P cap : Nat} {cur arr : Array Value} {k op : Bool} {cl : Ev} {V : World} (h : AnsI w g P cap cur arr k op cl V) (b : Bool) : AnsI w g P cap cur arr k b cl (V.setCell ⟨P + 1 + 1, 0, none⟩ (.bool b)) :=
 h.at (by show P ≤ P + 1 + 1; omega) (by show P + 1 + 1 < _; omega) (let ⟨ow, o1, o2⟩ := h.co; ⟨ow, (Below.heap_setCell V ⟨P + 1 + 1, 0, none⟩ _ _ (by show P ≠ P + 1 + 1; omega)).trans o1, o2⟩) ((Below.heap_setCell V ⟨P + 1 + 1, 0, none⟩ _ _ (by show P + 1 ≠ P + 1 + 1; omega)).trans h.ck) (h.cb.set _)
theorem AnsI.eaten {w : World} {g P cap : Nat} {cur arr : Array Value} {k op : Bool} {cl : Ev} {V : World} (h : AnsI w g P cap cur arr k op cl V) (A : Option Addr) (c : Nat) : AnsI w g P cap cur arr true op cl (V.setCell ⟨P, 0, none⟩ (.slice A 0 c)) := by
 obtain ⟨ow, o1, o2⟩ := h.co
 exact h.at (by show P ≤ P; omega) (by show P < _; omega) ⟨_, o1.set _, ⟨(fun e => nomatch e), fun _ => ⟨_, _, rfl⟩⟩⟩ ((Below.heap_setCell V ⟨P, 0, none⟩ _ _ (by show P + 1 ≠ P; omega)).trans h.ck) ((Below.heap_setCell V ⟨P, 0, none⟩ _ _ (by show P + 1 + 1 ≠ P; omega)).trans h.cb)
theorem AnsI.put {w : World} {g P cap : Nat} {cur arr : Array Value} {k op : Bool} {cl : Ev} {V : World} (h : AnsI w g P cap cur arr k op cl V) (o : Nat) (v : Value) (cl' : Ev) (e : cl.arr.setIfInBounds o v = cl'.arr) : AnsI w g P cap cur arr k op cl' (V.setCell ⟨P + 1, o, none⟩ v) := by
 obtain ⟨ow, o1, o2⟩ := h.co
 have hc := h.ck
 refine h.at (by show P ≤ P + 1; omega) (by show P + 1 < _; omega) ⟨ow, (Below.heap_setCell V ⟨P + 1, o, none⟩ _ _ (by show P ≠ P + 1; omega)).trans o1, o2⟩ ?_ ((Below.heap_setCell V ⟨P + 1, o, none⟩ _ _ (by show P + 1 + 1 ≠ P + 1; omega)).trans h.cb)
 rw [← e]
 unfold World.setCell
 simp only [Array.getElem?_modify, hc]
 simp
structure Mv (n P : Nat) (U V : World) : Prop where
 b : Below n U V
 k : KeepsOthers U V
 q : ∀ k, (k = P + 1 + 1 + 1 ∨ k = P + 1 + 1 + 1 + 1 ∨ k = P + 1 + 1 + 1 + 1 + 1) → V.heap[k]? = U.heap[k]?
theorem Mv.trans {n P : Nat} {U V W : World} (h : Mv n P U V) (k : Mv n P V W) : Mv n P U W := ⟨h.b.trans k.b, h.k.trans k.k, fun i hi => (k.q i hi).trans (h.q i hi)⟩
theorem Mv.set {n P : Nat} (U : World) (a : Addr) (v : Value) (h1 : n ≤ a.block) (h2 : a.block < P + 1 + 1 + 1) : Mv n P U (U.setCell a v) :=
 ⟨(Below.refl _ U).setCell h1 _, KeepsOthers.setCell U _ _, fun i hi => Below.heap_setCell U a _ i (by omega)⟩
theorem Mv.below {n P : Nat} {U V : World} (h : Below U.heap.size U V) (h1 : n ≤ U.heap.size) (h2 : P + 6 ≤ U.heap.size) : Mv n P U V :=
 ⟨h.mono h1, ⟨h.size, fun k o hk _ => (h.block k (Array.getElem?_eq_some_iff.1 hk).1).trans hk⟩, fun i hi => h.block i (by omega)⟩
set_option maxRecDepth 100000 in
set_option maxHeartbeats 4000000 in
theorem yzO (a0 : Int) (a1 : Int) (a2 : Int) (a3 : Int) (a4 : Int) (a5 : Int) (a6 : Int) (a7 : Int) (a8 : Bool) (a9 : Int) (a10 : Int) (a11 : Int) (t : Int) (A : Option Addr) (c : Nat) (es : List Mk) (B : Option Addr) (d : Nat) (evs : List Ev) (w : World) (hC : MkC w A es) (hsm : es.length < 1000000) (hE : EvC w B evs) (hsm2 : evs.length < 1000000)
 (m : Mk) (hm : (es.filter fun m => m.f0 == t) = [m]) (cl : Ev) (hf : (evs.filter fun x => x.f1 == t && x.f0 != 3).foldl (jm ⟨a0, a1, a2, a3, a4, a5, a6, a7, a8, a9, a10, a11⟩ m) (some (false, false, ev0)) = some (true, false, cl)) :
 CallsIn Fence.wide 9 Tryz.prog 35 #[.agg #[.int .i64 a0, .int .i64 a1, .int .i64 a2, .int .i64 a3, .int .i64 a4, .int .i64 a5, .int .i64 a6, .int .i64 a7, .bool a8, .int .i64 a9, .int .i64 a10, .int .i64 a11], .slice A es.length c, .slice B evs.length d, .int .i64 t] w fun e w' => e = .returned (.bool true) ∧ Below w.heap.size w w' := by
 refine callsIn_of_wp_marks Tryz.func35 rfl trivial ?_ rfl
 simp only [Tryz.ntmps35, List.size_toArray, List.length_cons, List.length_nil, Nat.reduceAdd, Nat.reduceSub, Array.replicate_succ, Array.replicate_zero, List.push_toArray, List.append_toArray, List.nil_append, List.cons_append]
 gi_wp2
 refine ⟨trivial, (callsIn_wide.2 (YP A es.length c 55 _ _)).mono ?_⟩
 rintro e w1 ⟨rfl, e1⟩
 cases e1
 simp only [World.size_alloc]
 gi_wp2
 obtain ⟨W4, hW4⟩ : ∃ W4, (((((w.alloc (.cells #[.int .i64 a0, .int .i64 a1, .int .i64 a2, .int .i64 a3, .int .i64 a4, .int .i64 a5, .int .i64 a6, .int .i64 a7, .bool a8, .int .i64 a9, .int .i64 a10, .int .i64 a11] 23)).alloc (.cells #[.int .i64 t] 3)).alloc (.cells #[.bool false] 4)).alloc (.cells #[.slice A es.length c] 36)).alloc (.cells #[.func (.func 55) #[] #[.pointer (some ⟨w.heap.size + 1, 0, none⟩)]] 105) : World) = W4 := ⟨_, rfl⟩
 have hsz : W4.heap.size = w.heap.size + 5 := by rw [← hW4]; simp
 have past : ∀ (V : World) (o : Obj) (k : Nat) (q : Obj), V.heap[k]? = some q → (V.alloc o).heap[k]? = some q := fun V o k q h => (Below.heap_alloc V o k (Array.getElem?_eq_some_iff.1 h).1).trans h
 have bc : W4.heap[w.heap.size]? = some (.cells #[.int .i64 a0, .int .i64 a1, .int .i64 a2, .int .i64 a3, .int .i64 a4, .int .i64 a5, .int .i64 a6, .int .i64 a7, .bool a8, .int .i64 a9, .int .i64 a10, .int .i64 a11] 23 (0, 0)) := by rw [← hW4]; exact past _ _ _ _ (past _ _ _ _ (past _ _ _ _ (past _ _ _ _ (heap_alloc_new _ _))))
 have bt : Boxed W4 (w.heap.size + 1) 3 (.int .i64 t) := by
  have q := Boxed.new (w.alloc (.cells #[.int .i64 a0, .int .i64 a1, .int .i64 a2, .int .i64 a3, .int .i64 a4, .int .i64 a5, .int .i64 a6, .int .i64 a7, .bool a8, .int .i64 a9, .int .i64 a10, .int .i64 a11] 23)) 3 (.int .i64 t)
  simp only [World.size_alloc] at q
  rw [← hW4]
  exact ((q.alloc _).alloc _).alloc _
 have br : Boxed W4 (w.heap.size + 2) 4 (.bool false) := by
  have q := Boxed.new ((w.alloc (.cells #[.int .i64 a0, .int .i64 a1, .int .i64 a2, .int .i64 a3, .int .i64 a4, .int .i64 a5, .int .i64 a6, .int .i64 a7, .bool a8, .int .i64 a9, .int .i64 a10, .int .i64 a11] 23)).alloc (.cells #[.int .i64 t] 3)) 4 (.bool false)
  simp only [World.size_alloc] at q
  rw [← hW4]
  exact (q.alloc _).alloc _
 have bl : Boxed W4 (w.heap.size + 3) 36 (.slice A es.length c) := by
  have q := Boxed.new (((w.alloc (.cells #[.int .i64 a0, .int .i64 a1, .int .i64 a2, .int .i64 a3, .int .i64 a4, .int .i64 a5, .int .i64 a6, .int .i64 a7, .bool a8, .int .i64 a9, .int .i64 a10, .int .i64 a11] 23)).alloc (.cells #[.int .i64 t] 3)).alloc (.cells #[.bool false] 4)) 36 (.slice A es.length c)
  simp only [World.size_alloc] at q
  rw [← hW4]
  exact q.alloc _
 have bk : Boxed W4 (w.heap.size + 3 + 1) 105 (.func (.func 55) #[] #[.pointer (some ⟨w.heap.size + 1, 0, none⟩)]) := by
  have q := Boxed.new ((((w.alloc (.cells #[.int .i64 a0, .int .i64 a1, .int .i64 a2, .int .i64 a3, .int .i64 a4, .int .i64 a5, .int .i64 a6, .int .i64 a7, .bool a8, .int .i64 a9, .int .i64 a10, .int .i64 a11] 23)).alloc (.cells #[.int .i64 t] 3)).alloc (.cells #[.bool false] 4)).alloc (.cells #[.slice A es.length c] 36)) 105 (.func (.func 55) #[] #[.pointer (some ⟨w.heap.size + 1, 0, none⟩)])
  simp only [World.size_alloc] at q
  rw [← hW4]
  exact q
 have hB4 : Below w.heap.size w W4 := by rw [← hW4]; exact (((((Below.refl _ w).alloc (Nat.le_refl _) _).alloc (by simp) _).alloc (by simp; omega) _).alloc (by simp; omega) _).alloc (by simp; omega) _
 rw [hW4]
 have hcol := YzP (w.heap.size + 3) w.heap.size 55 #[.pointer (some ⟨w.heap.size + 1, 0, none⟩)] (fun m => m.f0 == t) (fun k => k = w.heap.size + 1 ∨ k = w.heap.size + 3 ∨ k = w.heap.size + 3 + 1) (by simp) (by simp) (by omega) A c es w rfl hC hsm W4 hB4 (fun k hk => by omega) bl bk (enters_of Tryz.func55 (by kernel_rfl) rfl)
  (fun x V hV hK => zzp x (w.heap.size + 1) t V (by
    have h1 : V.heap[w.heap.size + 1]? = some (.cells #[.int .i64 t] 3 (0, 0)) := (hK _ (Or.inl rfl)).trans bt
    simp [World.cell?, h1]))
 rw [hm] at hcol
 refine ⟨trivial, (callsIn_wide.2 (callsIn_wide.1 hcol)).mono ?_⟩
 rintro e w5 ⟨v, rfl, hrow, hb5⟩
 obtain ⟨hrl, ⟨_, h0⟩ | ⟨g, cap, cur, rfl, hg0, hg1, hg2, hg3, hg4, hg5⟩⟩ := hrow
 · exact absurd h0 (by simp)
 have bt5 : Boxed w5 (w.heap.size + 1) 3 (.int .i64 t) := (hb5.block _ (by omega)).trans bt
 have e3 : ∀ o1 o2 o3, (((w5.alloc o1).alloc o2).alloc o3).cell? ⟨w.heap.size + 1, 0, none⟩ = some (.int .i64 t) := fun o1 o2 o3 => (((bt5.alloc o1).alloc o2).alloc o3).cell
 gi_wp2
 refine ⟨trivial, (callsIn_wide.2 (jC B evs.length d t _)).mono ?_⟩
 rintro e w7 ⟨rfl, e7⟩
 cases e7
 gi_wp2
 obtain ⟨W6, hW6⟩ : ∃ W6, ((((((w5.alloc (.cells #[.slice (some ⟨g, 0, none⟩) 1 cap] 36)).alloc (.cells ev0.arr 64)).alloc (.cells #[.bool false] 4)).alloc (.cells #[.int .i64 t] 3)).alloc (.cells #[.slice B evs.length d] 37)).alloc (.cells #[.func (.func 72) #[] #[.pointer (some ⟨w5.heap.size + 1 + 1 + 1, 0, none⟩)]] 137) : World) = W6 := ⟨_, rfl⟩
 have hsz6 : W6.heap.size = w5.heap.size + 6 := by rw [← hW6]; simp
 have hg5l : g < w5.heap.size := (Array.getElem?_eq_some_iff.1 hg1).1
 have up : ∀ k q, w5.heap[k]? = some q → W6.heap[k]? = some q := fun k q h => by rw [← hW6]; exact past _ _ _ _ (past _ _ _ _ (past _ _ _ _ (past _ _ _ _ (past _ _ _ _ (past _ _ _ _ h)))))
 have hB6 : Below w.heap.size w W6 := by rw [← hW6]; exact ((((((hB4.trans (hb5.mono (by omega))).alloc (by omega) _).alloc (by simp; omega) _).alloc (by simp; omega) _).alloc (by simp; omega) _).alloc (by simp; omega) _).alloc (by simp; omega) _
 have c6 : W6.heap[w.heap.size]? = some (.cells #[.int .i64 a0, .int .i64 a1, .int .i64 a2, .int .i64 a3, .int .i64 a4, .int .i64 a5, .int .i64 a6, .int .i64 a7, .bool a8, .int .i64 a9, .int .i64 a10, .int .i64 a11] 23 (0, 0)) := up _ _ ((hb5.block _ (by omega)).trans bc)
 have r6 : Boxed W6 (w.heap.size + 1 + 1) 4 (.bool false) := up _ _ ((hb5.block _ (by omega)).trans br)
 have g6 : W6.heap[g]? = some (.cells cur 52 (0, 0)) := up _ _ hg1
 have o6 : Boxed W6 w5.heap.size 36 (.slice (some ⟨g, 0, none⟩) 1 cap) := by
  rw [← hW6]
  exact (((((Boxed.new w5 36 (.slice (some ⟨g, 0, none⟩) 1 cap)).alloc _).alloc _).alloc _).alloc _).alloc _
 have k6 : W6.heap[w5.heap.size + 1]? = some (.cells ev0.arr 64 (0, 0)) := by
  have q := heap_alloc_new (w5.alloc (.cells #[.slice (some ⟨g, 0, none⟩) 1 cap] 36)) (.cells ev0.arr 64)
  simp only [World.size_alloc] at q
  rw [← hW6]
  exact past _ _ _ _ (past _ _ _ _ (past _ _ _ _ (past _ _ _ _ q)))
 have b6 : Boxed W6 (w5.heap.size + 1 + 1) 4 (.bool false) := by
  have q := Boxed.new ((w5.alloc (.cells #[.slice (some ⟨g, 0, none⟩) 1 cap] 36)).alloc (.cells ev0.arr 64)) 4 (.bool false)
  simp only [World.size_alloc] at q
  rw [← hW6]
  exact ((q.alloc _).alloc _).alloc _
 have t6 : Boxed W6 (w5.heap.size + 1 + 1 + 1) 3 (.int .i64 t) := by
  have q := Boxed.new (((w5.alloc (.cells #[.slice (some ⟨g, 0, none⟩) 1 cap] 36)).alloc (.cells ev0.arr 64)).alloc (.cells #[.bool false] 4)) 3 (.int .i64 t)
  simp only [World.size_alloc] at q
  rw [← hW6]
  exact (q.alloc _).alloc _
 have l6 : Boxed W6 (w5.heap.size + 1 + 1 + 1 + 1) 37 (.slice B evs.length d) := by
  have q := Boxed.new ((((w5.alloc (.cells #[.slice (some ⟨g, 0, none⟩) 1 cap] 36)).alloc (.cells ev0.arr 64)).alloc (.cells #[.bool false] 4)).alloc (.cells #[.int .i64 t] 3)) 37 (.slice B evs.length d)
  simp only [World.size_alloc] at q
  rw [← hW6]
  exact q.alloc _
 have f6 : Boxed W6 (w5.heap.size + 1 + 1 + 1 + 1 + 1) 137 (.func (.func 72) #[] #[.pointer (some ⟨w5.heap.size + 1 + 1 + 1, 0, none⟩)]) := by
  have q := Boxed.new (((((w5.alloc (.cells #[.slice (some ⟨g, 0, none⟩) 1 cap] 36)).alloc (.cells ev0.arr 64)).alloc (.cells #[.bool false] 4)).alloc (.cells #[.int .i64 t] 3)).alloc (.cells #[.slice B evs.length d] 37)) 137 (.func (.func 72) #[] #[.pointer (some ⟨w5.heap.size + 1 + 1 + 1, 0, none⟩)])
  simp only [World.size_alloc] at q
  rw [← hW6]
  exact q
 have hw5 : w.heap.size + 5 ≤ w5.heap.size := by have := hb5.size; omega
 have hgg : w.heap.size + 6 ≤ g := by omega
 have hcur : ∀ i, i < 6 → cur[i]? = m.arr[i]? := by
  intro i hi
  have h1 : cur.toList[i]? = (Yh [m])[i]? := by
   rw [← hg5, List.getElem?_take, if_pos (by simpa using hi)]
  rw [← Array.getElem?_toList, h1, ← Array.getElem?_toList]
  simp [Yh]
 rw [show (Obj.cells #[Value.int IntKind.i64 0, Value.int IntKind.i64 0, Value.int IntKind.i64 0, Value.int IntKind.i64 0, Value.int IntKind.i64 0, Value.int IntKind.i64 0, Value.bool false, Value.int IntKind.i64 0] 64) = Obj.cells ev0.arr 64 from rfl, hW6]
 generalize hP : w5.heap.size = P at *
 clear hW6 e3 bt5 hb5 hW4 hcol up past
 generalize hfs : (evs.filter fun x => x.f1 == t && x.f0 != 3) = fs at hf
 refine J3 rfl (by omega) (gf := 80) (lb := #[.pointer (some ⟨P + 1 + 1 + 1 + 1, 0, none⟩), .pointer (some ⟨P + 1 + 1 + 1 + 1 + 1, 0, none⟩)]) rfl trivial (enters_of Tryz.func80 (by kernel_rfl) rfl) (encs := fun x : Ev => #[.agg x.arr]) (Kp := fun U U' => Below w.heap.size U U' ∧ ∀ k, (k = P + 1 + 1 + 1 ∨ k = P + 1 + 1 + 1 + 1 ∨ k = P + 1 + 1 + 1 + 1 + 1) → U'.heap[k]? = U.heap[k]?) (S := fun ys => ys = fs) (Sp := fun pre => pre <+: fs) (N := fs.length) (fun _ => rfl)
  (fun h k => ⟨h.1.trans k.1, fun q hq => (k.2 q hq).trans (h.2 q hq)⟩)
  (fun V l o' hl => ⟨⟨rfl, rfl, rfl, by simp, fun k hk => World.putObj_heap_other (by omega)⟩, fun k hk => World.putObj_heap_other (by omega)⟩)
  (fun l J Jx V hV hJc hY h0 => by
    have hkeep : ∀ k, k < P + 6 → V.heap[k]? = W6.heap[k]? := fun k hk => hV.block k (by omega)
    rw [← hfs] at hY ⊢
    exact Zz8 8 (by omega) l (P + 1 + 1 + 1 + 1) w.heap.size 72 #[.pointer (some ⟨P + 1 + 1 + 1, 0, none⟩)] (fun x => x.f1 == t && x.f0 != 3) (fun k => k = P + 1 + 1 + 1 ∨ k = P + 1 + 1 + 1 + 1 ∨ k = P + 1 + 1 + 1 + 1 + 1) (by simp) (by simp) (by omega) B d evs w rfl hE hsm2 V (hB6.trans (hV.mono (by omega))) (fun k hk => by have := hV.size; omega) ((hkeep _ (by omega)).trans l6) ((hkeep _ (by omega)).trans f6) (enters_of Tryz.func72 (by kernel_rfl) rfl)
     (fun x U hU hK => yzp x (P + 1 + 1 + 1) t U (by
       have h1 : U.heap[P + 1 + 1 + 1]? = some (.cells #[.int .i64 t] 3 (0, 0)) := ((hK _ (Or.inl rfl)).trans (hkeep _ (by omega))).trans t6
       simp [World.cell?, h1]))
     J Jx hJc (fun pre x U hJ hlen => hY pre x U hJ hlen) h0)
  (fun pre V => ∃ k op cl, pre.foldl (jm ⟨a0, a1, a2, a3, a4, a5, a6, a7, a8, a9, a10, a11⟩ m) (some (false, false, ev0)) = some (k, op, cl) ∧ AnsI w g P cap cur #[.int .i64 a0, .int .i64 a1, .int .i64 a2, .int .i64 a3, .int .i64 a4, .int .i64 a5, .int .i64 a6, .int .i64 a7, .bool a8, .int .i64 a9, .int .i64 a10, .int .i64 a11] k op cl V)
  (fun _ pre _ => pre.foldl (jm ⟨a0, a1, a2, a3, a4, a5, a6, a7, a8, a9, a10, a11⟩ m) (some (false, false, ev0)) = none) ?hI (fun _ _ _ _ _ hs _ _ => hs) ?hIc ⟨false, false, ev0, rfl, c6, r6, g6, ⟨_, o6, fun _ => rfl, fun e => by cases e⟩, k6, b6, hB6, by omega, by omega, hg5l⟩
  (fun s V => ∃ gx k op cl, P + 6 ≤ gx ∧ V.heap[gx]? = some (.cells s.1.2.arr 64 (0, 0)) ∧ s.2 = { tmps := List.toArray (Value.agg #[.int .i64 a0, .int .i64 a1, .int .i64 a2, .int .i64 a3, .int .i64 a4, .int .i64 a5, .int .i64 a6, .int .i64 a7, .bool a8, .int .i64 a9, .int .i64 a10, .int .i64 a11] :: Value.slice A es.length c :: Value.slice B evs.length d :: Value.int .i64 t :: Value.pointer (some ⟨w.heap.size, 0, none⟩) :: undef :: undef :: Value.pointer (some ⟨w.heap.size + 1, 0, none⟩) :: Value.pointer (some ⟨w.heap.size + 1 + 1, 0, none⟩) :: Value.pointer (some ⟨P, 0, none⟩) :: Value.pointer (some ⟨P + 1, 0, none⟩) :: Value.pointer (some ⟨P + 1 + 1, 0, none⟩) :: Value.pointer (some ⟨gx, 0, none⟩) :: Value.slice A es.length c :: Value.func (.func 55) #[] #[.pointer (some ⟨w.heap.size + 1, 0, none⟩)] :: Value.func (.func 67) #[] #[.pointer (some ⟨w.heap.size + 1 + 1 + 1, 0, none⟩), .pointer (some ⟨w.heap.size + 1 + 1 + 1 + 1, 0, none⟩)] :: Value.slice (some ⟨g, 0, none⟩) 1 cap :: Value.slice B evs.length d :: Value.int .i64 t :: Value.func (.func 80) #[] #[.pointer (some ⟨P + 1 + 1 + 1 + 1, 0, none⟩), .pointer (some ⟨P + 1 + 1 + 1 + 1 + 1, 0, none⟩)] :: Value.agg s.1.2.arr :: undef :: undef :: undef :: undef :: undef :: undef :: undef :: undef :: undef :: undef :: undef :: undef :: undef :: undef :: undef :: undef :: undef :: undef :: undef :: undef :: undef :: undef :: undef :: undef :: undef :: undef :: undef :: undef :: undef :: undef :: undef :: undef :: undef :: undef :: undef :: undef :: undef :: undef :: undef :: undef :: undef :: undef :: undef :: undef :: undef :: undef :: undef :: undef :: undef :: undef :: undef :: undef :: undef :: undef :: undef :: undef :: undef :: []), defers := [] } ∧ s.1.1.foldl (jm ⟨a0, a1, a2, a3, a4, a5, a6, a7, a8, a9, a10, a11⟩ m) (some (false, false, ev0)) = some (k, op, cl) ∧ AnsI w g P cap cur #[.int .i64 a0, .int .i64 a1, .int .i64 a2, .int .i64 a3, .int .i64 a4, .int .i64 a5, .int .i64 a6, .int .i64 a7, .bool a8, .int .i64 a9, .int .i64 a10, .int .i64 a11] k op cl V)
  ?hI2 (fun U U' hs hU => ⟨hU.mono (by omega), fun k hk => hU.block k (by omega)⟩) ?assign ?body ?done ?stop
 case hI =>
  rintro s U U' row ⟨k, op, cl, h0, hi⟩ hg hr
  exact ⟨k, op, cl, h0, hi.own hsz6 hg hr⟩
 case hIc =>
  rintro s U U' hU ⟨k, op, cl, h0, hi⟩
  exact ⟨k, op, cl, h0, hi.below hU⟩
 case hI2 =>
  rintro ⟨⟨pre, x⟩, a'⟩ U U' row ⟨gx, k, op, cl, g0, g1, g2, h0, hi⟩ hg hr
  refine ⟨gx, k, op, cl, g0, (hg.block _ (Array.getElem?_eq_some_iff.1 g1).1 (fun e => ?_)).trans g1, g2, h0, hi.own hsz6 hg hr⟩
  obtain ⟨_, o, ho, hc⟩ := hr gx e.symm
  rw [g1] at ho
  cases ho
  cases hc
 case assign =>
  rintro l pre x U K' ⟨k, op, cl, h0, hi⟩ hlen hK
  obtain ⟨v0, v1, v2, v3, v4, v5, v6, v7⟩ := x
  simp only [Ev.arr] at hK ⊢
  gi_wp2
  refine hK _ _ ⟨U.heap.size, k, op, cl, hi.size, heap_alloc_new _ _, rfl, h0, hi.below ((Below.refl _ U).alloc (Nat.le_refl _) _)⟩ ((Below.refl _ U).alloc (Nat.le_refl _) _)
 case body =>
  rintro l pre x a' U ⟨gx, k, op, cl, g0, g1, e2, h0, hi⟩ hlen
  simp only at g1 e2 h0
  subst e2
  obtain ⟨v0, v1, v2, v3, v4, v5, v6, v7⟩ := x
  simp only [Ev.arr] at g1
  have q0 : U.cell? ⟨gx, 0, none⟩ = some (.int .i64 v0) := by simp [World.cell?, g1]
  have q1 : U.cell? ⟨gx, 1, none⟩ = some (.int .i64 v1) := by simp [World.cell?, g1]
  have q2 : U.cell? ⟨gx, 2, none⟩ = some (.int .i64 v2) := by simp [World.cell?, g1]
  have q3 : U.cell? ⟨gx, 3, none⟩ = some (.int .i64 v3) := by simp [World.cell?, g1]
  have q4 : U.cell? ⟨gx, 4, none⟩ = some (.int .i64 v4) := by simp [World.cell?, g1]
  have q5 : U.cell? ⟨gx, 5, none⟩ = some (.int .i64 v5) := by simp [World.cell?, g1]
  have q6 : U.cell? ⟨gx, 6, none⟩ = some (.bool v6) := by simp [World.cell?, g1]
  have q7 : U.cell? ⟨gx, 7, none⟩ = some (.int .i64 v7) := by simp [World.cell?, g1]
  have p0 : U.cell? ⟨P + 1, 0, none⟩ = some (.int .i64 cl.f0) := by simp [World.cell?, hi.ck, Ev.arr]
  have z0 : U.frozen? ⟨P + 1, 0, none⟩ = false := by simp [World.frozen?, hi.ck, Ev.arr]
  have p1 : U.cell? ⟨P + 1, 1, none⟩ = some (.int .i64 cl.f1) := by simp [World.cell?, hi.ck, Ev.arr]
  have z1 : U.frozen? ⟨P + 1, 1, none⟩ = false := by simp [World.frozen?, hi.ck, Ev.arr]
  have p2 : U.cell? ⟨P + 1, 2, none⟩ = some (.int .i64 cl.f2) := by simp [World.cell?, hi.ck, Ev.arr]
  have z2 : U.frozen? ⟨P + 1, 2, none⟩ = false := by simp [World.frozen?, hi.ck, Ev.arr]
  have p3 : U.cell? ⟨P + 1, 3, none⟩ = some (.int .i64 cl.f3) := by simp [World.cell?, hi.ck, Ev.arr]
  have z3 : U.frozen? ⟨P + 1, 3, none⟩ = false := by simp [World.frozen?, hi.ck, Ev.arr]
  have p4 : U.cell? ⟨P + 1, 4, none⟩ = some (.int .i64 cl.f4) := by simp [World.cell?, hi.ck, Ev.arr]
  have z4 : U.frozen? ⟨P + 1, 4, none⟩ = false := by simp [World.frozen?, hi.ck, Ev.arr]
  have p5 : U.cell? ⟨P + 1, 5, none⟩ = some (.int .i64 cl.f5) := by simp [World.cell?, hi.ck, Ev.arr]
  have z5 : U.frozen? ⟨P + 1, 5, none⟩ = false := by simp [World.frozen?, hi.ck, Ev.arr]
  have p6 : U.cell? ⟨P + 1, 6, none⟩ = some (.bool cl.f6) := by simp [World.cell?, hi.ck, Ev.arr]
  have z6 : U.frozen? ⟨P + 1, 6, none⟩ = false := by simp [World.frozen?, hi.ck, Ev.arr]
  have p7 : U.cell? ⟨P + 1, 7, none⟩ = some (.int .i64 cl.f7) := by simp [World.cell?, hi.ck, Ev.arr]
  have z7 : U.frozen? ⟨P + 1, 7, none⟩ = false := by simp [World.frozen?, hi.ck, Ev.arr]
  have hb1 := hi.cb.cell
  have hb2 := hi.cb.frozen
  have hr1 := hi.cr.cell
  have hr2 := hi.cr.frozen
  have hn2 : w.heap.size + 1 + 1 < g := hi.le
  have hn3 : g < P := hi.gp
  have hn4 : P + 6 ≤ U.heap.size := hi.size
  have fold : (pre ++ [(⟨v0, v1, v2, v3, v4, v5, v6, v7⟩ : Ev)]).foldl (jm ⟨a0, a1, a2, a3, a4, a5, a6, a7, a8, a9, a10, a11⟩ m) (some (false, false, ev0)) = jm ⟨a0, a1, a2, a3, a4, a5, a6, a7, a8, a9, a10, a11⟩ m (some (k, op, cl)) ⟨v0, v1, v2, v3, v4, v5, v6, v7⟩ := by
   rw [List.foldl_append, h0]; rfl
  have mvr : Mv w.heap.size P U (U.setCell ⟨w.heap.size + 1 + 1, 0, none⟩ (.bool false)) := Mv.set _ _ _ (by show _ ≤ w.heap.size + 1 + 1; omega) (by show w.heap.size + 1 + 1 < _; omega)
  generalize hQ : ownPostG _ _ _ _ _ _ = Q
  cases op with
  | false =>
    by_cases e : v0 = 1
    · gi_wp2
      have i1 := hi.opened true
      have m1 : Mv w.heap.size P U (U.setCell ⟨P + 1 + 1, 0, none⟩ (.bool true)) := Mv.set _ _ _ (by show _ ≤ P + 1 + 1; omega) (by show P + 1 + 1 < _; omega)
      have ms : ∀ (V : World) (o : Nat) (v : Value), Mv w.heap.size P V (V.setCell ⟨P + 1, o, none⟩ v) := fun V o v => Mv.set V ⟨P + 1, o, none⟩ v (by show _ ≤ P + 1; omega) (by show P + 1 < _; omega)
      have mv := ((((((((m1.trans (ms _ 0 (.int .i64 1))).trans (ms _ 1 (.int .i64 v1))).trans (ms _ 2 (.int .i64 v2))).trans (ms _ 3 (.int .i64 v3))).trans (ms _ 4 (.int .i64 v4))).trans (ms _ 5 (.int .i64 v5))).trans (ms _ 6 (.bool v6))).trans (ms _ 7 (.int .i64 v7)))
      rw [← hQ]
      refine ⟨mv.k.from _, ⟨mv.b, mv.q⟩, k, true, ⟨1, v1, v2, v3, v4, v5, v6, v7⟩, ?_, ?_⟩
      · exact fold.trans (by simp [jm, e])
      · exact (((((((i1.put 0 (.int .i64 1) ⟨1, cl.f1, cl.f2, cl.f3, cl.f4, cl.f5, cl.f6, cl.f7⟩ rfl).put 1 (.int .i64 v1) ⟨1, v1, cl.f2, cl.f3, cl.f4, cl.f5, cl.f6, cl.f7⟩ rfl).put 2 (.int .i64 v2) ⟨1, v1, v2, cl.f3, cl.f4, cl.f5, cl.f6, cl.f7⟩ rfl).put 3 (.int .i64 v3) ⟨1, v1, v2, v3, cl.f4, cl.f5, cl.f6, cl.f7⟩ rfl).put 4 (.int .i64 v4) ⟨1, v1, v2, v3, v4, cl.f5, cl.f6, cl.f7⟩ rfl).put 5 (.int .i64 v5) ⟨1, v1, v2, v3, v4, v5, cl.f6, cl.f7⟩ rfl).put 6 (.bool v6) ⟨1, v1, v2, v3, v4, v5, v6, cl.f7⟩ rfl).put 7 (.int .i64 v7) ⟨1, v1, v2, v3, v4, v5, v6, v7⟩ rfl
    · have e' : (v0 == 1) = false := by simpa using e
      gi_wp2
      rw [← hQ]
      exact ⟨mvr.k.from _, fold.trans (by simp [jm, e'])⟩
  | true =>
    by_cases e : v0 = 1
    · gi_wp2
      rw [← hQ]
      exact ⟨mvr.k.from _, fold.trans (by simp [jm, e])⟩
    · have e' : (v0 == 1) = false := by simpa using e
      cases k with
      | false =>
        gi_wp2
        obtain ⟨U1, hU1⟩ : ∃ U1, U.setCell ⟨P + 1 + 1, 0, none⟩ (.bool false) = U1 := ⟨_, rfl⟩
        have hi1 := hi.opened false
        have m1 : Mv w.heap.size P U (U.setCell ⟨P + 1 + 1, 0, none⟩ (.bool false)) := Mv.set _ _ _ (by show _ ≤ P + 1 + 1; omega) (by show P + 1 + 1 < _; omega)
        have gx1 : (U.setCell ⟨P + 1 + 1, 0, none⟩ (.bool false)).heap[gx]? = some (.cells #[.int .i64 v0, .int .i64 v1, .int .i64 v2, .int .i64 v3, .int .i64 v4, .int .i64 v5, .bool v6, .int .i64 v7] 64 (0, 0)) := (Below.heap_setCell U ⟨P + 1 + 1, 0, none⟩ _ gx (by show gx ≠ P + 1 + 1; omega)).trans g1
        rw [hU1] at hi1 m1 gx1 ⊢
        clear hb1 hb2 hr1 hr2 p0 z0 q0 p1 z1 q1 p2 z2 q2 p3 z3 q3 p4 z4 q4 p5 z5 q5 p6 z6 q6 p7 z7 q7
        obtain ⟨ow1, oq1, oq2, _⟩ := hi1.co
        obtain rfl := oq2 rfl
        have o1 := oq1.cell
        have y0 : U1.cell? ⟨w.heap.size, 0, none⟩ = some (.int .i64 a0) := by simp [World.cell?, hi1.cc]
        have y1 : U1.cell? ⟨w.heap.size, 1, none⟩ = some (.int .i64 a1) := by simp [World.cell?, hi1.cc]
        have y2 : U1.cell? ⟨w.heap.size, 2, none⟩ = some (.int .i64 a2) := by simp [World.cell?, hi1.cc]
        have y3 : U1.cell? ⟨w.heap.size, 3, none⟩ = some (.int .i64 a3) := by simp [World.cell?, hi1.cc]
        have y4 : U1.cell? ⟨w.heap.size, 4, none⟩ = some (.int .i64 a4) := by simp [World.cell?, hi1.cc]
        have y5 : U1.cell? ⟨w.heap.size, 5, none⟩ = some (.int .i64 a5) := by simp [World.cell?, hi1.cc]
        have y6 : U1.cell? ⟨w.heap.size, 6, none⟩ = some (.int .i64 a6) := by simp [World.cell?, hi1.cc]
        have y7 : U1.cell? ⟨w.heap.size, 7, none⟩ = some (.int .i64 a7) := by simp [World.cell?, hi1.cc]
        have y8 : U1.cell? ⟨w.heap.size, 8, none⟩ = some (.bool a8) := by simp [World.cell?, hi1.cc]
        have y9 : U1.cell? ⟨w.heap.size, 9, none⟩ = some (.int .i64 a9) := by simp [World.cell?, hi1.cc]
        have y10 : U1.cell? ⟨w.heap.size, 10, none⟩ = some (.int .i64 a10) := by simp [World.cell?, hi1.cc]
        have y11 : U1.cell? ⟨w.heap.size, 11, none⟩ = some (.int .i64 a11) := by simp [World.cell?, hi1.cc]
        have x0 : U1.cell? ⟨g, 0, none⟩ = some (.int .i64 m.f0) := by rw [show U1.cell? ⟨g, 0, none⟩ = cur[0]? by simp [World.cell?, hi1.cg]]; exact (hcur 0 (by omega)).trans (by simp [Mk.arr])
        have x1 : U1.cell? ⟨g, 1, none⟩ = some (.int .i64 m.f1) := by rw [show U1.cell? ⟨g, 1, none⟩ = cur[1]? by simp [World.cell?, hi1.cg]]; exact (hcur 1 (by omega)).trans (by simp [Mk.arr])
        have x2 : U1.cell? ⟨g, 2, none⟩ = some (.int .i64 m.f2) := by rw [show U1.cell? ⟨g, 2, none⟩ = cur[2]? by simp [World.cell?, hi1.cg]]; exact (hcur 2 (by omega)).trans (by simp [Mk.arr])
        have x3 : U1.cell? ⟨g, 3, none⟩ = some (.int .i64 m.f3) := by rw [show U1.cell? ⟨g, 3, none⟩ = cur[3]? by simp [World.cell?, hi1.cg]]; exact (hcur 3 (by omega)).trans (by simp [Mk.arr])
        have x4 : U1.cell? ⟨g, 4, none⟩ = some (.int .i64 m.f4) := by rw [show U1.cell? ⟨g, 4, none⟩ = cur[4]? by simp [World.cell?, hi1.cg]]; exact (hcur 4 (by omega)).trans (by simp [Mk.arr])
        have x5 : U1.cell? ⟨g, 5, none⟩ = some (.int .i64 m.f5) := by rw [show U1.cell? ⟨g, 5, none⟩ = cur[5]? by simp [World.cell?, hi1.cg]]; exact (hcur 5 (by omega)).trans (by simp [Mk.arr])
        have p0 : U1.cell? ⟨P + 1, 0, none⟩ = some (.int .i64 cl.f0) := by simp [World.cell?, hi1.ck, Ev.arr]
        have p1 : U1.cell? ⟨P + 1, 1, none⟩ = some (.int .i64 cl.f1) := by simp [World.cell?, hi1.ck, Ev.arr]
        have p2 : U1.cell? ⟨P + 1, 2, none⟩ = some (.int .i64 cl.f2) := by simp [World.cell?, hi1.ck, Ev.arr]
        have p3 : U1.cell? ⟨P + 1, 3, none⟩ = some (.int .i64 cl.f3) := by simp [World.cell?, hi1.ck, Ev.arr]
        have p4 : U1.cell? ⟨P + 1, 4, none⟩ = some (.int .i64 cl.f4) := by simp [World.cell?, hi1.ck, Ev.arr]
        have p5 : U1.cell? ⟨P + 1, 5, none⟩ = some (.int .i64 cl.f5) := by simp [World.cell?, hi1.ck, Ev.arr]
        have p6 : U1.cell? ⟨P + 1, 6, none⟩ = some (.bool cl.f6) := by simp [World.cell?, hi1.ck, Ev.arr]
        have p7 : U1.cell? ⟨P + 1, 7, none⟩ = some (.int .i64 cl.f7) := by simp [World.cell?, hi1.ck, Ev.arr]
        have q0 : U1.cell? ⟨gx, 0, none⟩ = some (.int .i64 v0) := by simp [World.cell?, gx1]
        have q1 : U1.cell? ⟨gx, 1, none⟩ = some (.int .i64 v1) := by simp [World.cell?, gx1]
        have q2 : U1.cell? ⟨gx, 2, none⟩ = some (.int .i64 v2) := by simp [World.cell?, gx1]
        have q3 : U1.cell? ⟨gx, 3, none⟩ = some (.int .i64 v3) := by simp [World.cell?, gx1]
        have q4 : U1.cell? ⟨gx, 4, none⟩ = some (.int .i64 v4) := by simp [World.cell?, gx1]
        have q5 : U1.cell? ⟨gx, 5, none⟩ = some (.int .i64 v5) := by simp [World.cell?, gx1]
        have q6 : U1.cell? ⟨gx, 6, none⟩ = some (.bool v6) := by simp [World.cell?, gx1]
        have q7 : U1.cell? ⟨gx, 7, none⟩ = some (.int .i64 v7) := by simp [World.cell?, gx1]
        have ro := cell_regrown o1
        have ry0 := cell_regrown y0
        have ry1 := cell_regrown y1
        have ry2 := cell_regrown y2
        have ry3 := cell_regrown y3
        have ry4 := cell_regrown y4
        have ry5 := cell_regrown y5
        have ry6 := cell_regrown y6
        have ry7 := cell_regrown y7
        have ry8 := cell_regrown y8
        have ry9 := cell_regrown y9
        have ry10 := cell_regrown y10
        have ry11 := cell_regrown y11
        have rx0 := cell_regrown x0
        have rx1 := cell_regrown x1
        have rx2 := cell_regrown x2
        have rx3 := cell_regrown x3
        have rx4 := cell_regrown x4
        have rx5 := cell_regrown x5
        have rp0 := cell_regrown p0
        have rp1 := cell_regrown p1
        have rp2 := cell_regrown p2
        have rp3 := cell_regrown p3
        have rp4 := cell_regrown p4
        have rp5 := cell_regrown p5
        have rp6 := cell_regrown p6
        have rp7 := cell_regrown p7
        have rq0 := cell_regrown q0
        have rq1 := cell_regrown q1
        have rq2 := cell_regrown q2
        have rq3 := cell_regrown q3
        have rq4 := cell_regrown q4
        have rq5 := cell_regrown q5
        have rq6 := cell_regrown q6
        have rq7 := cell_regrown q7
        cases hA : answ ⟨a0, a1, a2, a3, a4, a5, a6, a7, a8, a9, a10, a11⟩ m cl ⟨v0, v1, v2, v3, v4, v5, v6, v7⟩ with
        | false =>
          have cQ : ∀ d os, CallsIn (Fence.wide.inRound l) (9 - 1 - 1 - 1) Tryz.prog 57 #[.agg #[.int .i64 a0, .int .i64 a1, .int .i64 a2, .int .i64 a3, .int .i64 a4, .int .i64 a5, .int .i64 a6, .int .i64 a7, .bool a8, .int .i64 a9, .int .i64 a10, .int .i64 a11], .agg #[.int .i64 m.f0, .int .i64 m.f1, .int .i64 m.f2, .int .i64 m.f3, .int .i64 m.f4, .int .i64 m.f5], .agg #[.int .i64 cl.f0, .int .i64 cl.f1, .int .i64 cl.f2, .int .i64 cl.f3, .int .i64 cl.f4, .int .i64 cl.f5, .bool cl.f6, .int .i64 cl.f7], .agg #[.int .i64 v0, .int .i64 v1, .int .i64 v2, .int .i64 v3, .int .i64 v4, .int .i64 v5, .bool v6, .int .i64 v7]] (Go.Sort.grow (redrawn U1 d) os) fun e w'' => e = .returned (.bool false) ∧ ∃ p : Regrown, w'' = Go.Sort.grow (redrawn U1 p.d) p.os := fun d os => by
           rw [← hA]; exact CallsIn.regrown_of (CallsIn.inRound l (callsIn_wide.2 (j4 a0 a1 a2 a3 a4 a5 a6 a7 a8 a9 a10 a11 m cl ⟨v0, v1, v2, v3, v4, v5, v6, v7⟩ _)))
          refine ZZ (by kernel_rfl) (by kernel_rfl) (by kernel_rfl) ?_
          repeat (refine wpQuietIn_step (fun _ _ _ _ => trivial) (fun K hK => ?_); go_simp; first | (refine hK _ ?_; clear hK K) | (apply Exists.intro; refine ⟨fun _ => ?_, hK _ ?_⟩; (first | exact ⟨by simp, cQ _ _⟩ | exact cQ _ _); clear hK K))
          refine wpQuietIn_nil ?_
          intro W2 hw'
          obtain ⟨⟨dq, osq⟩, hw''⟩ := hw'
          have bg : RowKit.Below U1.heap.size U1 W2 := by rw [hw'']; exact below_regrown U1 dq osq
          clear hw''
          have i2 := hi1.below bg
          have m2 := m1.trans (Mv.below bg (Nat.le_trans hi1.cB.size (Nat.le_refl _)) hi1.size)
          have r21 := i2.cr.cell
          have r22 := i2.cr.frozen
          gi_wp2
          rw [← hQ]
          exact ⟨(m2.trans (Mv.set W2 ⟨w.heap.size + 1 + 1, 0, none⟩ (.bool false) (by show _ ≤ w.heap.size + 1 + 1; omega) (by show w.heap.size + 1 + 1 < _; omega))).k.from _, fold.trans (by simp [jm, e', hA])⟩
        | true =>
          have cQ : ∀ d os, CallsIn (Fence.wide.inRound l) (9 - 1 - 1 - 1) Tryz.prog 57 #[.agg #[.int .i64 a0, .int .i64 a1, .int .i64 a2, .int .i64 a3, .int .i64 a4, .int .i64 a5, .int .i64 a6, .int .i64 a7, .bool a8, .int .i64 a9, .int .i64 a10, .int .i64 a11], .agg #[.int .i64 m.f0, .int .i64 m.f1, .int .i64 m.f2, .int .i64 m.f3, .int .i64 m.f4, .int .i64 m.f5], .agg #[.int .i64 cl.f0, .int .i64 cl.f1, .int .i64 cl.f2, .int .i64 cl.f3, .int .i64 cl.f4, .int .i64 cl.f5, .bool cl.f6, .int .i64 cl.f7], .agg #[.int .i64 v0, .int .i64 v1, .int .i64 v2, .int .i64 v3, .int .i64 v4, .int .i64 v5, .bool v6, .int .i64 v7]] (Go.Sort.grow (redrawn U1 d) os) fun e w'' => e = .returned (.bool true) ∧ ∃ p : Regrown, w'' = Go.Sort.grow (redrawn U1 p.d) p.os := fun d os => by
           rw [← hA]; exact CallsIn.regrown_of (CallsIn.inRound l (callsIn_wide.2 (j4 a0 a1 a2 a3 a4 a5 a6 a7 a8 a9 a10 a11 m cl ⟨v0, v1, v2, v3, v4, v5, v6, v7⟩ _)))
          refine ZZ (by kernel_rfl) (by kernel_rfl) (by kernel_rfl) ?_
          repeat (refine wpQuietIn_step (fun _ _ _ _ => trivial) (fun K hK => ?_); go_simp; first | (refine hK _ ?_; clear hK K) | (apply Exists.intro; refine ⟨fun _ => ?_, hK _ ?_⟩; (first | exact ⟨by simp, cQ _ _⟩ | exact cQ _ _); clear hK K))
          refine wpQuietIn_nil ?_
          intro W2 hw'
          obtain ⟨⟨dq, osq⟩, hw''⟩ := hw'
          have bg : RowKit.Below U1.heap.size U1 W2 := by rw [hw'']; exact below_regrown U1 dq osq
          clear hw''
          have i2 := hi1.below bg
          have m2 := m1.trans (Mv.below bg (Nat.le_trans hi1.cB.size (Nat.le_refl _)) hi1.size)
          have r21 := i2.cr.cell
          have r22 := i2.cr.frozen
          have oq3 : Boxed W2 P 36 (.slice (some ⟨g, 0, none⟩) 1 cap) := (bg.block _ oq1.lt).trans oq1
          have o21 := oq3.cell
          have o22 := oq3.frozen
          have hcap : 1 ≤ cap := by simpa using hg2
          have fin : ∀ A c, KeepsFrom W6.heap.size U (W2.setCell ⟨P, 0, none⟩ (.slice A 0 c)) ∧ (RowKit.Below w.heap.size U (W2.setCell ⟨P, 0, none⟩ (.slice A 0 c)) ∧ ∀ k, (k = P + 1 + 1 + 1 ∨ k = P + 1 + 1 + 1 + 1 ∨ k = P + 1 + 1 + 1 + 1 + 1) → (W2.setCell ⟨P, 0, none⟩ (.slice A 0 c)).heap[k]? = U.heap[k]?) ∧
           ∃ k op cl, (pre ++ [(⟨v0, v1, v2, v3, v4, v5, v6, v7⟩ : Ev)]).foldl (jm ⟨a0, a1, a2, a3, a4, a5, a6, a7, a8, a9, a10, a11⟩ m) (some (false, false, ev0)) = some (k, op, cl) ∧ AnsI w g P cap cur #[.int .i64 a0, .int .i64 a1, .int .i64 a2, .int .i64 a3, .int .i64 a4, .int .i64 a5, .int .i64 a6, .int .i64 a7, .bool a8, .int .i64 a9, .int .i64 a10, .int .i64 a11] k op cl (W2.setCell ⟨P, 0, none⟩ (.slice A 0 c)) := fun A c => by
           have mv := m2.trans (Mv.set W2 ⟨P, 0, none⟩ (.slice A 0 c) (by show _ ≤ P; omega) (by show P < _; omega))
           exact ⟨mv.k.from _, ⟨mv.b, mv.q⟩, true, false, cl, fold.trans (by simp [jm, e', hA]), i2.eaten A c⟩
          gi_wp2
          all_goals (rw [← hQ]; exact fin _ _)
      | true =>
        gi_wp2
        obtain ⟨U1, hU1⟩ : ∃ U1, U.setCell ⟨P + 1 + 1, 0, none⟩ (.bool false) = U1 := ⟨_, rfl⟩
        have hi1 := hi.opened false
        have m1 : Mv w.heap.size P U (U.setCell ⟨P + 1 + 1, 0, none⟩ (.bool false)) := Mv.set _ _ _ (by show _ ≤ P + 1 + 1; omega) (by show P + 1 + 1 < _; omega)
        have gx1 : (U.setCell ⟨P + 1 + 1, 0, none⟩ (.bool false)).heap[gx]? = some (.cells #[.int .i64 v0, .int .i64 v1, .int .i64 v2, .int .i64 v3, .int .i64 v4, .int .i64 v5, .bool v6, .int .i64 v7] 64 (0, 0)) := (Below.heap_setCell U ⟨P + 1 + 1, 0, none⟩ _ gx (by show gx ≠ P + 1 + 1; omega)).trans g1
        rw [hU1] at hi1 m1 gx1 ⊢
        obtain ⟨ow1, oq1, _, oq2⟩ := hi1.co
        obtain ⟨A1, c1, rfl⟩ := oq2 rfl
        have o1 := oq1.cell
        have ro := cell_regrown o1
        refine ZZ (by kernel_rfl) (by kernel_rfl) (by kernel_rfl) ?_
        repeat (refine wpQuietIn_step (fun _ _ _ _ => trivial) (fun K hK => ?_); go_simp; (refine hK _ ?_; clear hK K))
        refine wpQuietIn_nil ?_
        intro W2 hw'
        obtain ⟨⟨dq, osq⟩, hw''⟩ := hw'
        have bg : RowKit.Below U1.heap.size U1 W2 := by rw [hw'']; exact below_regrown U1 dq osq
        clear hw''
        have i2 := hi1.below bg
        have m2 := m1.trans (Mv.below bg (Nat.le_trans hi1.cB.size (Nat.le_refl _)) hi1.size)
        have r21 := i2.cr.cell
        have r22 := i2.cr.frozen
        gi_wp2
        rw [← hQ]
        exact ⟨(m2.trans (Mv.set W2 ⟨w.heap.size + 1 + 1, 0, none⟩ (.bool false) (by show _ ≤ w.heap.size + 1 + 1; omega) (by show w.heap.size + 1 + 1 < _; omega))).k.from _, fold.trans (by simp [jm, e'])⟩
 case done =>
  rintro D ys V hD rfl ⟨k, op, cl', h0, hi⟩ hK
  rw [h0] at hf
  cases hf
  obtain ⟨ow, oq1, _, oq2⟩ := hi.co
  obtain ⟨A1, c1, rfl⟩ := oq2 rfl
  have o1 := oq1.cell
  have r1 := hi.cr.cell
  have r2 := hi.cr.frozen
  have hn2 : w.heap.size + 1 + 1 < g := hi.le
  gi_wp2
  have hK' := (KeepsOthers.setCell V ⟨w.heap.size + 1 + 1, 0, none⟩ (.bool true)).same D _ hK rfl
  refine ⟨by simp, .inl ⟨_, _, rfl, run_takeDeferred hK', ?_⟩⟩
  have hc5 := cell_kept (World.cell?_setCell_same' V ⟨w.heap.size + 1 + 1, 0, none⟩ (.bool true) (by rw [r1]; rfl)) (grownBy_putObj' _ D (.deferred none)) (fun r e => by cases e; exact ⟨_, hK', rfl⟩)
  refine ⟨.bool true, ?_, rfl, (hi.cB.setCell (p := ⟨w.heap.size + 1 + 1, 0, none⟩) (by show _ ≤ w.heap.size + 1 + 1; omega) _).trans (belowK_b (w := w) (Nat.le_refl _) _ D _ _ (by omega) hK' rfl rfl)⟩
  simp [results, Tryz.f35, go_sem, hc5]
 case stop =>
  rintro D c pre V hD ⟨suf, hsuf⟩ hx hK
  rw [← hsuf, List.foldl_append, hx] at hf
  have : ∀ l : List Ev, l.foldl (jm ⟨a0, a1, a2, a3, a4, a5, a6, a7, a8, a9, a10, a11⟩ m) none = none := fun l => by induction l with | nil => rfl | cons a l ih => exact ih
  rw [this] at hf
  cases hf
end
end Go.Proofs.YtgfnpgnfklcicaaGreatS
set_option maxRecDepth 10000
namespace Go.Proofs.YtgfnpgnfklcicaaGreatS
open Go Go.Proofs Go.RowKit
def s35 : List PK := [S23k, (false, [.list 52]), (false, [.list 64]), (false, [.int .i64])]
noncomputable def QyH (c : S23) (es : List Mk) (evs : List Ev) (t : Int) : Bool := match es.filter fun m => m.f0 == t with
 | [m] => match (evs.filter fun x => x.f1 == t && x.f0 != 3).foldl (jm c m) (some (false, false, ev0)) with
   | some (true, false, _) => true
   | _ => false
 | _ => false
noncomputable def f35P : Ora := ⟨fun ps => okPs s35 ps && (decide ((Zy (ps.tail.headD PV.undef)).length < 1000000) && (decide ((Zy (ps.tail.tail.headD PV.undef)).length < 1000000) && QyH (S23r (ps.headD PV.undef)) ((Zy (ps.tail.headD PV.undef)).map mkOf) ((Zy (ps.tail.tail.headD PV.undef)).map evOf) (pInt (ps.tail.tail.tail.headD PV.undef)))), fun ps => .pv (.bool true)⟩
theorem yz9 : Spec Tryz.prog 35 f35P := by
 intro w S ps vs hS hv hp
 obtain ⟨hp1, hp2⟩ := Bool.and_eq_true_iff.1 (show (okPs s35 ps && _) = true from hp)
 obtain ⟨hp2, hp3⟩ := Bool.and_eq_true_iff.1 hp2
 obtain ⟨hp3, hp4⟩ := Bool.and_eq_true_iff.1 hp3
 have hp2 := of_decide_eq_true hp2
 have hp3 := of_decide_eq_true hp3
 have hc := Yr hp1
 have hc2 : ym s35 ps = [S23v (S23r (ps.headD PV.undef)), PV.list 52 (Zy (ps.tail.headD PV.undef)), PV.list 64 (Zy (ps.tail.tail.headD PV.undef)), PV.int .i64 (pInt (ps.tail.tail.tail.headD PV.undef))] := by kernel_rfl
 rw [hc2] at hc
 rw [← hc] at hv
 generalize S23r (ps.headD PV.undef) = cf at hv hp4
 generalize Zy (ps.tail.headD PV.undef) = ms at hv hp2 hp4
 generalize Zy (ps.tail.tail.headD PV.undef) = xs at hv hp3 hp4
 generalize pInt (ps.tail.tail.tail.headD PV.undef) = t at hv hp4
 obtain ⟨a0, a1, a2, a3, a4, a5, a6, a7, a8, a9, a10, a11⟩ := cf
 simp only [VPs, VP, S23v] at hv
 obtain ⟨v0, _, rfl, ⟨vs0, rfl, hv0⟩, _, _, rfl, ⟨A, cap, us, rfl, h2, h3, h4, h5⟩, _, _, rfl, ⟨B, cap2, us2, rfl, g2, g3, g4, g5⟩, _, _, rfl, rfl, rfl⟩ := hv
 obtain ⟨_, _, rfl, rfl, _, _, rfl, rfl, _, _, rfl, rfl, _, _, rfl, rfl, _, _, rfl, rfl, _, _, rfl, rfl, _, _, rfl, rfl, _, _, rfl, rfl, _, _, rfl, rfl, _, _, rfl, rfl, _, _, rfl, rfl, _, _, rfl, rfl, rfl⟩ := hv0
 unfold QyH at hp4
 split at hp4
 case h_2 => cases hp4
 rename_i m hm
 split at hp4
 case h_2 => cases hp4
 rename_i cl hf
 have hq := yzO a0 a1 a2 a3 a4 a5 a6 a7 a8 a9 a10 a11 t A cap _ B cap2 _ w (qE h3 h4 h5) (by simpa using hp2) (Jz8 g3 g4 g5) (by simpa using hp3) m hm cl hf
 rw [List.length_map, List.length_map] at hq
 refine (Go.callsIn_wide.1 hq).mono ?_
 rintro e w' ⟨rfl, hb⟩
 refine ⟨_, rfl, hb, ?_⟩
 show VP Tryz.prog w' S (.bool true) _
 simp only [VP]
end Go.Proofs.YtgfnpgnfklcicaaGreatS
set_option maxRecDepth 10000
namespace Go.Proofs.YtgfnpgnfklcicaaGreatS
open Go Go.Proofs Go.RowKit Go.Sort
section
open Go.Shelf Go.Boxes
attribute [local go_sem] Oper.semAt_some
def ordI (a b : Int) : Int := if a < b then -1 else if a > b then 1 else 0
set_option maxHeartbeats 4000000 in
theorem zzh (x y : Mk) (w : World) : Calls Tryz.prog 30 #[.agg x.arr, .agg y.arr] w fun e w' => e = .returned (.int .i64 (ordI x.f5 y.f5)) ∧ RowKit.Below w.heap.size w w' := by
 obtain ⟨v0, v1, v2, v3, v4, v5⟩ := x
 obtain ⟨u0, u1, u2, u3, u4, u5⟩ := y
 simp only [Mk.arr]
 have hB : ∀ o1 o2, RowKit.Below w.heap.size w ((w.alloc o1).alloc o2) := fun o1 o2 => ((RowKit.Below.refl _ w).alloc (Nat.le_refl _) _).alloc (by simp) _
 go_enter Tryz.func30, Tryz.ntmps30
 unfold ordI
 by_cases h1 : v5 < u5
 · go_wp2
   go_ret
   exact ⟨by simp [h1], hB _ _⟩
 · by_cases h2 : v5 > u5
   · go_wp2
     go_ret
     exact ⟨by simp [h1, h2], hB _ _⟩
   · go_wp2
     go_ret
     exact ⟨by simp [h1, h2], hB _ _⟩
set_option maxRecDepth 100000 in
set_option maxHeartbeats 4000000 in
theorem qz9 (A : Option Addr) (c : Nat) (es : List Mk) (w : World) (hC : MkC w A es) (hsm : es.length < 1000000) (hs : ∀ j : Int, 0 < j → j < es.length → (MkAt es (j - 1)).f5 ≤ (MkAt es j).f5) :
 CallsIn Fence.wide 9 Tryz.prog 29 #[.slice A es.length c, .func (.func 30) #[] #[]] w fun e w' => e = .returned (.bool true) ∧ RowKit.Below w.heap.size w w' := by
 refine callsIn_of_wp Tryz.func29 rfl trivial ?_ rfl
 simp only [Tryz.ntmps29, List.size_toArray, List.length_cons, List.length_nil, Nat.reduceAdd, Nat.reduceSub, Array.replicate_succ, Array.replicate_zero, List.push_toArray, List.append_toArray, List.nil_append, List.cons_append]
 gi_wp2
 gi_loopw [5] (fun i wr => ∃ (j : Int), i = .int .i64 j ∧ -1 ≤ j ∧ j < es.length ∧ RowKit.Below w.heap.size w wr)
  (fun i wr => (intOf i).toNat)
 case atStart =>
  exact ⟨_, rfl, by omega, by omega, RowKit.Below.refl _ w⟩
 case round =>
  obtain ⟨j, rfl, hj0, hj, hB⟩ := hrel
  by_cases hlt : 0 < j
  · have hCr : MkC wr A es := hC.below hB
    obtain ⟨ad, rfl, q0, q1, q2, q3, q4, q5⟩ := MkC.at hCr j (by omega) hj
    obtain ⟨ad', he, p0, p1, p2, p3, p4, p5⟩ := MkC.at hCr (j - 1) (by omega) (by omega)
    obtain rfl := Option.some.inj he
    have ej : (j - 1).toNat = j.toNat - 1 := by omega
    rw [ej] at p0 p1 p2 p3 p4 p5
    have hr0 : 0 ≤ ordI (MkAt es j).f5 (MkAt es (j - 1)).f5 := by
     have := hs j hlt hj
     unfold ordI
     split
     · omega
     · split <;> omega
    have wj : IntKind.i64.wrap (j - 1) = j - 1 := by rw [IntKind.wrap_i64]; omega
    have rq0 := cell_regrown q0
    have rq1 := cell_regrown q1
    have rq2 := cell_regrown q2
    have rq3 := cell_regrown q3
    have rq4 := cell_regrown q4
    have rq5 := cell_regrown q5
    have rp0 := cell_regrown p0
    have rp1 := cell_regrown p1
    have rp2 := cell_regrown p2
    have rp3 := cell_regrown p3
    have rp4 := cell_regrown p4
    have rp5 := cell_regrown p5
    have cQ : ∀ d os, CallsIn Fence.wide (9 - 1) Tryz.prog 30 #[.agg #[.int .i64 (MkAt es j).f0, .int .i64 (MkAt es j).f1, .int .i64 (MkAt es j).f2, .int .i64 (MkAt es j).f3, .int .i64 (MkAt es j).f4, .int .i64 (MkAt es j).f5], .agg #[.int .i64 (MkAt es (j - 1)).f0, .int .i64 (MkAt es (j - 1)).f1, .int .i64 (MkAt es (j - 1)).f2, .int .i64 (MkAt es (j - 1)).f3, .int .i64 (MkAt es (j - 1)).f4, .int .i64 (MkAt es (j - 1)).f5]] (Go.Sort.grow (redrawn wr d) os) fun e w'' => e = .returned (.int .i64 (ordI (MkAt es j).f5 (MkAt es (j - 1)).f5)) ∧ ∃ p : Regrown, w'' = Go.Sort.grow (redrawn wr p.d) p.os := fun d os =>
     CallsIn.regrown_of (callsIn_wide.2 (zzh (MkAt es j) (MkAt es (j - 1)) _))
    generalize ordI (MkAt es j).f5 (MkAt es (j - 1)).f5 = r at hr0 cQ
    have hd : decide (r < 0) = false := decide_eq_false (by omega)
    have b0 : 0 ≤ j := by omega
    have b1 : 0 ≤ j - 1 := by omega
    have b2 : j - 1 < es.length := by omega
    have b3 : 1 ≤ j := by omega
    gi_wp2
    refine wpIn_region_quiet_below rfl (by kernel_rfl) (by kernel_rfl) ?_
    repeat (refine wpQuietIn_step (fun _ _ _ _ => trivial) (fun K hK => ?_); go_simp; first | (refine hK _ ?_; clear hK K) | (apply Exists.intro; refine ⟨fun _ => ?_, hK _ ?_⟩; (first | exact ⟨by simp, cQ _ _⟩ | exact cQ _ _); clear hK K))
    refine wpQuietIn_nil ?_
    intro W2 hw'
    obtain ⟨⟨dq, osq⟩, hw''⟩ := hw'
    have bg : RowKit.Below wr.heap.size wr W2 := by rw [hw'']; exact below_regrown wr dq osq
    clear hw''
    gi_wp2
    go_roundw
    case rel => exact ⟨j - 1, by first | rfl | (rw [wj]; rfl) | (simp [wj]; done), by omega, by omega, hB.trans (bg.mono hB.size)⟩
    case measure => simp [intOf, wj]; omega
  · have hd : decide (j > 0) = false := decide_eq_false (by omega)
    gi_wp2
    go_ret
    exact ⟨rfl, hB⟩
end
end Go.Proofs.YtgfnpgnfklcicaaGreatS
set_option maxRecDepth 10000
namespace Go.Proofs.YtgfnpgnfklcicaaGreatS
open Go Go.Proofs Go.RowKit
def jz9 (es : List Mk) : Bool := (List.range es.length).all fun i => decide (i + 1 < es.length → (MkAt es i).f5 ≤ (MkAt es (i + 1 : Nat)).f5)
theorem qzO {es : List Mk} (h : jz9 es = true) (j : Int) (h0 : 0 < j) (h1 : j < es.length) : (MkAt es (j - 1)).f5 ≤ (MkAt es j).f5 := by
 have := of_decide_eq_true (List.all_eq_true.1 h (j.toNat - 1) (List.mem_range.2 (by omega))) (by omega)
 rwa [show ((j.toNat - 1 : Nat) : Int) = j - 1 by omega, show ((j.toNat - 1 + 1 : Nat) : Int) = j by omega] at this
def is29 : List PV → Bool
 | [p, .fn 30] => okPs [(false, [.list 52])] [p] && (decide ((Zy p).length < 1000000) && jz9 ((Zy p).map mkOf))
 | _ => false
def f29P : Ora := ⟨is29, fun _ => .pv (.bool true)⟩
theorem Zz9 : Spec Tryz.prog 29 f29P := by
 intro w S ps vs hS hv hp0
 have hp : is29 ps = true := hp0
 clear hp0
 unfold is29 at hp
 split at hp
 case h_2 => cases hp
 rename_i p
 obtain ⟨hp1, hp2⟩ := Bool.and_eq_true_iff.1 hp
 obtain ⟨hp2, hp3⟩ := Bool.and_eq_true_iff.1 hp2
 have hp2 := of_decide_eq_true hp2
 have hc := Yr hp1
 have hc2 : ym [(false, [.list 52])] [p] = [PV.list 52 (Zy p)] := by kernel_rfl
 rw [hc2] at hc
 rw [← (List.cons.inj hc).1] at hv
 clear hc hc2 hp1 hp
 generalize Zy p = ms at hv hp2 hp3
 simp only [VPs, VP] at hv
 obtain ⟨_, _, rfl, ⟨A, cap, us, rfl, h2, h3, h4, h5⟩, _, _, rfl, rfl, rfl⟩ := hv
 have hq := qz9 A cap _ w (qE h3 h4 h5) (by simpa using hp2) (fun j h0 h1 => qzO hp3 j h0 h1)
 rw [List.length_map] at hq
 refine (Go.callsIn_wide.1 hq).mono ?_
 rintro e w' ⟨rfl, hb⟩
 refine ⟨_, rfl, hb, ?_⟩
 show VP Tryz.prog w' S (.bool true) _
 simp only [VP]
end Go.Proofs.YtgfnpgnfklcicaaGreatS
set_option maxRecDepth 10000
namespace Go.Proofs.YtgfnpgnfklcicaaGreatS
open Go Go.Proofs
def all2 {α : Type} (f : α → α → Bool) : List α → List α → Bool
 | [], [] => true
 | a :: l, b :: r => f a b && all2 f l r
 | _, _ => false
theorem Yg {α : Type} {f : α → α → Bool} (hf : ∀ a b, f a b = true → a = b) : ∀ {l r : List α}, all2 f l r = true → l = r
 | [], [], _ => rfl
 | a :: l, b :: r, h => by
   obtain ⟨h1, h2⟩ := Bool.and_eq_true_iff.1 (show (f a b && all2 f l r) = true from h)
   rw [hf _ _ h1, Yg hf h2]
def eqPn : Nat → PV → PV → Bool
 | n + 1, .int .i64 a, .int .i64 b => decide (a = b)
 | n + 1, .bool a, .bool b => a == b
 | n + 1, .list t xs, .list u ys => decide (t = u) && all2 (all2 (eqPn n)) xs ys
 | n + 1, .agg xs, .agg ys => all2 (eqPn n) xs ys
 | _, _, _ => false
theorem YW : ∀ (n : Nat) (p q : PV), eqPn n p q = true → p = q
 | n + 1, p, q, h => by
   have ih := YW n
   unfold eqPn at h
   split at h
   · rw [of_decide_eq_true h]
   · rw [eq_of_beq h]
   · obtain ⟨h1, h2⟩ := Bool.and_eq_true_iff.1 h
     rename_i e1
     obtain rfl := Nat.succ.inj e1
     rw [of_decide_eq_true h1, Yg (fun a b hab => Yg ih hab) h2]
   · rename_i e1
     obtain rfl := Nat.succ.inj e1
     rw [Yg ih h]
   · cases h
noncomputable def E10 (N : Nat) : Env := ((((E0 N).add 13 f13P).add 19 f19P).add 20 f20O).add 21 f21P
theorem JyH (N : Nat) : (E10 N).Ok := ((((ya N).add yz8).add zz8).add jyl).add jz8
def ops3 : List (List PV) := [[.int .i64 1, .int .i64 1], [.int .i64 1, .int .i64 2], [.int .i64 1, .int .i64 4]]
noncomputable def in10 (b : Int) : List PV := [S23v (cB b), .list 29 ops3, .list 3 []]
noncomputable def wPV (b : Int) (w : Wld) : PV := S39v ⟨3, 1, b, 1, 1, 1, 2, 0, false, 0, 0, 5, w.words, w.boxes, w.T, w.now, w.steps, w.tl, w.tp, w.log, w.hist⟩
theorem Jy5 : (qy (E10 100) 100 10 (in10 1)).run = some (.pv (.tup [wPV 1 wL1, .bool true])) := by kernel_rfl
theorem zy6 : (qy (E10 100) 100 10 (in10 2)).run = some (.pv (.tup [wPV 2 wL2, .bool true])) := by kernel_rfl
theorem yy6 : (qy (E10 100) 100 10 (in10 3)).run = some (.pv (.tup [wPV 3 wL3, .bool true])) := by kernel_rfl
def s10 : List PK := [S23k, (false, [.list 29]), (false, [.list 3])]
noncomputable def is10 (b : Int) (ps : List PV) : Bool := all2 (eqPn 6) (ym s10 ps) (in10 b)
noncomputable def f10P : Ora := ⟨fun ps => okPs s10 ps && (is10 1 ps || (is10 2 ps || is10 3 ps)), fun ps => .pv (.tup [bif is10 1 ps then wPV 1 wL1 else bif is10 2 ps then wPV 2 wL2 else wPV 3 wL3, .bool true])⟩
theorem Yz9 : Spec Tryz.prog 10 f10P := zI 100 s10 (fun ps => is10 1 ps || (is10 2 ps || is10 3 ps)) _ qv fun ps hm hs hp => by
 refine ⟨E10 100, _, rfl, JyH 100, ?_, .inl rfl⟩
 have hp : (is10 1 ps || (is10 2 ps || is10 3 ps)) = true := hp
 show _ = some (Res.pv (.tup [bif is10 1 ps then wPV 1 wL1 else bif is10 2 ps then wPV 2 wL2 else wPV 3 wL3, .bool true]))
 cases h1 : is10 1 ps with
 | true => rw [Yg (YW 6) h1]; exact Jy5
 | false =>
   cases h2 : is10 2 ps with
   | true => rw [Yg (YW 6) h2]; exact zy6
   | false =>
     rw [h1, h2] at hp
     rw [Yg (YW 6) (show is10 3 ps = true from by simpa using hp)]; exact yy6
noncomputable def E18 (N : Nat) : Env := ((((((E0 N).add 28 f28O).add 32 f32P).add 33 f33O).add 34 f34O).add 35 f35P).add 29 f29P
theorem zyG (N : Nat) : (E18 N).Ok := ((((((ya N).add zM).add zz9).add qzc).add q9).add yz9).add Zz9
theorem qy6 : (qy (E18 100) 100 18 [wPV 1 wL1]).run = some (.pv (.bool true)) := by kernel_rfl
theorem jy6 : (qy (E18 100) 100 18 [wPV 2 wL2]).run = some (.pv (.bool true)) := by kernel_rfl
theorem Zy6 : (qy (E18 100) 100 18 [wPV 3 wL3]).run = some (.pv (.bool true)) := by kernel_rfl
noncomputable def is18 (p : PV) (ps : List PV) : Bool := all2 (eqPn 6) ps [p]
noncomputable def f18P : Ora := ⟨fun ps => is18 (wPV 1 wL1) ps || (is18 (wPV 2 wL2) ps || is18 (wPV 3 wL3) ps), fun ps => .pv (.bool true)⟩
theorem Qz9 : Spec Tryz.prog 18 f18P := Jzm 100 (fun ps hm hp => by
 refine ⟨E18 100, .pv (.bool true), rfl, zyG 100, ?_, .inl rfl⟩
 have hp : (is18 (wPV 1 wL1) ps || (is18 (wPV 2 wL2) ps || is18 (wPV 3 wL3) ps)) = true := hp
 cases h1 : is18 (wPV 1 wL1) ps with
 | true => rw [Yg (YW 6) h1]; exact qy6
 | false =>
   cases h2 : is18 (wPV 2 wL2) ps with
   | true => rw [Yg (YW 6) h2]; exact jy6
   | false =>
     rw [h1, h2] at hp
     rw [Yg (YW 6) (show is18 (wPV 3 wL3) ps = true from by simpa using hp)]; exact Zy6) qv
set_option maxRecDepth 10000
def Jz9 : Nat → Nat → Option ((List Nat × List Nat) × (List Nat × List Nat)) := fun f r => match f, r with
 | 9, 4000002 => some (([], []), ([], []))
 | 9, 5000000 => some (([], []), ([], []))
 | 9, 2 => some (([1], []), ([], []))
 | f, r => QS f r
noncomputable def E9u (N : Nat) : Env := ⟨Tryz.prog, fun _ => none, Jz9, N⟩
theorem yyG (N : Nat) : (E9u N).Ok := ⟨fun f o h => (by cases h), by kernel_rfl, fun g h => (by
 have h' : (Jz9 g 1000000).isSome = true := h
 unfold Jz9 at h'
 split at h'
 · simp_all
 · simp_all
 · simp_all
 · unfold QS at h'
   split at h' <;> simp_all)⟩
noncomputable def E9 (N : Nat) : Env := ((E9u N).add 10 f10P).add 18 f18P
theorem Yy6 (N : Nat) : (E9 N).Ok := ((yyG N).add Yz9).add Qz9
theorem r9 : (qy (E9 100) 100 9 []).run = some (.pv (.bool true)) := by kernel_rfl
noncomputable def f9P : Ora := ⟨fun ps => okPs [] ps, fun ps => .pv (.bool true)⟩
theorem zyk : Spec Tryz.prog 9 f9P := Jzm 100 (fun ps hm hp => by
 have hp : okPs [] ps = true := hp
 refine ⟨E9 100, .pv (.bool true), rfl, Yy6 100, ?_, .inl rfl⟩
 cases ps with
 | nil => exact r9
 | cons p ps => cases hp) qv
end Go.Proofs.YtgfnpgnfklcicaaGreatS
