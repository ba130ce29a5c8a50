-- Laid by a program of this session over the kit's print; hand-proved functions stand among them. Not trusted: Lean checks it.
import Derived.Test.YtmlapgclfnlipaaPAx0
import Derived.Test.YtmlapgclfnlipaaPAx1
namespace Go.Proofs.Ytmlapgclfnlipaa.PA
open Go.RowKit Go.Proofs.YtmlapgclfnlipaaW.PrintWords Go.Proofs.YtmlapgclfnlipaaW.PrintLast Go.Proofs.YtmlapgclfnlipaaW.PrintMore
attribute [local go_sem] max2_int min2_int max_two min_two max_three min_three max_four min_four   -- for this text's walks alone
set_option linter.unusedVariables false
set_option linter.unusedSimpArgs false

/-! ### shape_Path: function 16 -/
section
open Go.Shelf
attribute [local go_sem] Oper.semAt_some
/-- The block Bn lies as it lay. -/
def KeepBox (Bn : Nat) (W W' : World) : Prop := W'.heap[Bn]? = W.heap[Bn]?
theorem KeepBox.trans {Bn : Nat} {A B C : World} (h : KeepBox Bn A B) (k : KeepBox Bn B C) : KeepBox Bn A C := Eq.trans k h
theorem KeepBox.cell {Bn : Nat} {A B : World} (h : KeepBox Bn A B) : B.cell? ⟨Bn, 0, none⟩ = A.cell? ⟨Bn, 0, none⟩ := by
  unfold KeepBox at h
  simp only [World.cell?, h]
theorem KeepBox.frozen {Bn : Nat} {A B : World} (h : KeepBox Bn A B) : B.frozen? ⟨Bn, 0, none⟩ = A.frozen? ⟨Bn, 0, none⟩ := by
  unfold KeepBox at h
  simp only [World.frozen?, h]
/-- A range over an iterator of whole numbers that keeps a variable of its own in the box Bn. -/
theorem range_box {F : Fence} {n : Nat} {P : Program} {g : Operand} {ps : Array Tmp} {assign body : Code} {Q : Exit → Act → World → Prop} {a : Act} {w : World}
    (hro : F.round = none) (h1 : 1 ≤ n) {gf : Nat} {lb : Array Value} (hg : a.eval g = .func (.func gf) #[] lb) (hFg : F.fn gf) (eg : ∀ args w, (callFunc gf args).run P w = .ok (.enter gf args) w)
    {S Sp : List Int → Prop} {N Bn : Nat} (hps : ps.size = 1) (hBn : Bn < w.heap.size)
    (hseq : ∀ (l : Nat) (J Jx : List Int → World → Prop) (W : World), Below w.heap.size w W → (∀ s A v, J s A → J s (A.setCell ⟨Bn, 0, none⟩ v)) →
      (∀ pre x W1, J pre W1 → pre.length < N → YieldAt F (n - 1 - 1) P l #[.int .i64 x] W1 fun e W' => (e = .returned (.bool true) ∧ J (pre ++ [x]) W' ∧ KeepBox Bn W1 W') ∨ (e = .returned (.bool false) ∧ Jx (pre ++ [x]) W')) →
      J [] W → CallsIn F (n - 1) P gf (#[.func (.yield l) #[] #[]] ++ lb) W fun e W' => (∃ v, e = .returned v) ∧ ((∃ xs, S xs ∧ J xs W') ∨ (∃ pre, Sp pre ∧ Jx pre W')))
    (I : List Int → World → Prop) (Ix : Code → List Int → World → Prop) (hI : OwnFrom w.heap.size I) (hIx : ∀ c, OwnFrom w.heap.size (Ix c)) (hIc : ∀ s A v, I s A → I s (A.setCell ⟨Bn, 0, none⟩ v)) (h0 : I [] w) (a₁ : Int → Act)
    (hassign : ∀ (l : Nat) (x : Int) (W : World) (K : Act → World → Prop), K (a₁ x) W →
      assign.wpIn (F.inRound l) (n - 1 - 1) P (Exit.then K (fun _ _ _ => False)) { tmps := (ps.zip #[Value.int .i64 x]).foldl (fun t (p, v) => t.setIfInBounds p v) a.tmps, defers := [] } W)
    (hbody : ∀ (l : Nat) (pre : List Int) (x : Int) (W : World), I pre W → pre.length < N → body.wpIn (F.inRound l) (n - 1 - 1) P (ownPostG w.heap.size (KeepBox Bn) I Ix (pre ++ [x]) W) (a₁ x) W)
    (hdone : ∀ (D : Nat) (xs : List Int) (W : World), w.heap.size ≤ D → S xs → I xs W → W.heap[D]? = some (.deferred (some [])) → Q .normal { a with defers := { target := .collected D, args := #[] } :: a.defers } W)
    (hstop : ∀ (D : Nat) (c : Code) (pre : List Int) (W : World), w.heap.size ≤ D → Sp pre → Ix c pre W → W.heap[D]? = some (.deferred (some [])) → c.wpIn F n P Q { a with defers := { target := .collected D, args := #[] } :: a.defers } W) :
    (Code.rangeFunc g ps assign body).wpIn F n P Q a w := by
  refine wpIn_rangeFunc fun fn hfn => ?_
  rw [hro]
  let R : LoopState → Option Code → Obj := fun st pe => .loop { state := st, pending := pe, fn, tmps := a.tmps, params := ps, assign, body, defers := w.heap.size }
  have hc : ∀ st pe, (R st pe).isCells = false := fun _ _ => rfl
  have hw' : ∀ st pe, (R st pe).isWalk = false := fun _ _ => rfl
  let B := w.heap.size
  obtain ⟨W1, hW1⟩ : ∃ W1, (w.alloc (.deferred (some []))).alloc (R .ready none) = W1 := ⟨_, rfl⟩
  have hL1 : W1.heap[B + 1]? = some (R .ready none) := by
    have := World.alloc_heap_new (w.alloc (.deferred (some []))) (R .ready none)
    rw [World.size_alloc] at this
    rw [← hW1]; exact this
  have hK1 : W1.heap[B]? = some (.deferred (some [])) := by
    rw [← hW1]; exact (Below.heap_alloc _ _ _ (by simp [B])).trans (World.alloc_heap_new w _)
  have turn : ∀ (A : World) (o' : Obj), KeepBox Bn A (A.putObj (B + 1) o') := fun A o' => World.putObj_heap_other (by omega)
  refine ⟨B + 1, [{ target := .collected B, args := #[] }], W1, { target := .fn (.func gf) lb, args := #[.func (.yield (B + 1)) #[] #[]] }, W1, gf, #[.func (.yield (B + 1)) #[] #[]] ++ lb, W1, ?_, ?_, ?_, ?_, fun _ => h1, ?_⟩
  · rw [← hW1]; exact run_enterLoop_outer _ _ _ _ _
  · simp only [resolve, hg]
    simp [go_sem]
  · intro f' hf'; simp [Target.leads] at hf'; subst hf'; exact hFg
  · simp [invoke, go_sem, eg]
  · refine (hseq (B + 1) (fun pre W => I pre W ∧ W.heap[B + 1]? = some (R .ready none) ∧ W.heap[B]? = some (.deferred (some [])))
      (fun pre W => ∃ c, Ix c pre W ∧ W.heap[B + 1]? = some (R .done (some c)) ∧ W.heap[B]? = some (.deferred (some []))) W1 ?_ ?_ ?_ ⟨?_, hL1, hK1⟩).mono ?_
    · rw [← hW1]; exact ((Below.refl _ w).alloc (Nat.le_refl _) _).alloc (by simp) _
    · rintro s A v ⟨hi, hl, hk⟩
      exact ⟨hIc s A v hi, (KeepsOthers.setCell A _ v).same _ _ hl rfl, (KeepsOthers.setCell A _ v).same _ _ hk rfl⟩
    · rintro pre x W ⟨hi, hl, hk⟩ hlen
      refine ⟨fn, _, assign, body, run_yield (P := P) (args := #[Value.int .i64 x]) hl (by simpa using hps.symm), roundIn_of_wpIn hfn (hassign _ x W _ ⟨_, run_beginRound hl rfl, ?_⟩)⟩
      have hlt : B + 1 < W.heap.size := (Array.getElem?_eq_some_iff.1 hl).1
      have hl2 : (W.putObj (B + 1) (R .busy none)).heap[B + 1]? = some (R .busy none) := World.putObj_heap_same hlt
      have hk2 : (W.putObj (B + 1) (R .busy none)).heap[B]? = some (.deferred (some [])) := (World.putObj_heap_other (by omega)).trans hk
      have fin : ∀ (jump : Option Code) (W3 : World), KeepsFrom B (W.putObj (B + 1) (R .busy none)) W3 →
          (Instr.endRound (B + 1) jump).run P W3 = .ok (.bool jump.isNone) (W3.putObj (B + 1) (R (if jump.isNone then .ready else .done) jump)) ∧ W3.heap[B + 1]? = some (R .busy none) ∧
          (W3.putObj (B + 1) (R (if jump.isNone then .ready else .done) jump)).heap[B + 1]? = some (R (if jump.isNone then .ready else .done) jump) ∧
          (W3.putObj (B + 1) (R (if jump.isNone then .ready else .done) jump)).heap[B]? = some (.deferred (some [])) := fun jump W3 hk3 => by
        have hl3 := hk3.same _ _ (by omega) hl2 rfl
        exact ⟨run_endRound (P := P) jump hl3, hl3, World.putObj_heap_same (Array.getElem?_eq_some_iff.1 hl3).1, (World.putObj_heap_other (by omega)).trans (hk3.same _ _ (Nat.le_refl _) hk2 rfl)⟩
      refine wpIn_mono (hbody _ pre x _ (hI.putObj _ hi (by simp [B]) hl rfl) hlen) ?_
      rintro e a3 W3 hp
      cases e with
      | normal =>
        obtain ⟨hk3, hkp3, hi3⟩ := hp
        obtain ⟨hr, hl3, hl4, hk4⟩ := fin none W3 hk3
        exact ⟨_, _, hr, .inl ⟨rfl, ⟨hI.putObj _ hi3 (by simp [B]) hl3 rfl, hl4, hk4⟩, ((turn _ _).trans hkp3).trans (turn _ _)⟩⟩
      | ret =>
        obtain ⟨hk3, hi3⟩ := hp
        obtain ⟨hr, hl3, hl4, hk4⟩ := fin (some .ret) W3 hk3
        exact ⟨_, _, hr, .inr ⟨rfl, .ret, (hIx _).putObj _ hi3 (by simp [B]) hl3 rfl, hl4, hk4⟩⟩
      | exit id =>
        obtain ⟨hk3, hi3⟩ := hp
        obtain ⟨hr, hl3, hl4, hk4⟩ := fin (some (.exit id)) W3 hk3
        exact ⟨_, _, hr, .inr ⟨rfl, .exit id, (hIx _).putObj _ hi3 (by simp [B]) hl3 rfl, hl4, hk4⟩⟩
      | goto t =>
        obtain ⟨hk3, hi3⟩ := hp
        obtain ⟨hr, hl3, hl4, hk4⟩ := fin (some (.goto t)) W3 hk3
        exact ⟨_, _, hr, .inr ⟨rfl, .goto t, (hIx _).putObj _ hi3 (by simp [B]) hl3 rfl, hl4, hk4⟩⟩
      | panic ch => exact hp.elim
      | outgrown => exact hp.elim
    · rw [← hW1]; exact hI.alloc _ (hI.alloc _ h0)
    · rintro e W2 ⟨⟨v, rfl⟩, (⟨xs, hS, hi, hl, hk⟩ | ⟨pre, hSp, c, hi, hl, hk⟩)⟩
      · exact ⟨none, _, run_endLoop (P := P) hl (by simp), hdone _ xs _ (Nat.le_refl _) hS (hI.putObj _ hi (by simp [B]) hl rfl) ((World.putObj_heap_other (by omega)).trans hk)⟩
      · exact ⟨some c, _, run_endLoop (P := P) hl (by simp), hstop _ c pre _ (Nat.le_refl _) hSp ((hIx c).putObj _ hi (by simp [B]) hl rfl) ((World.putObj_heap_other (by omega)).trans hk)⟩
/-- A node, and those above it. -/
def upl : Nat → Int → Option (List Int)
  | 0, _ => none
  | k + 1, n => if 0 < n then (upl k (mx n 0 / 2)).map (n :: ·) else some []
set_option maxHeartbeats 4000000 in
theorem parent_in (n : Nat) (a0 : Int) (w : World) : CallsIn Fence.wide n Try.prog 11 #[.int .i64 a0] w fun e w' => e = .returned (.int .i64 (mx a0 0 / 2)) ∧ w' = w := by
  refine callsIn_wide.2 ?_
  obtain ⟨m, hm⟩ : ∃ m, mx a0 0 = m := ⟨_, rfl⟩
  have hl : 0 ≤ m := by rw [← hm]; unfold mx; (repeat' split) <;> omega
  have hm_ : (if a0 < 0 then 0 else a0) = m := hm
  rw [hm]
  go_enter Try.func11, Try.ntmps11
  go_wp2
  go_ret
  exact ⟨by simp [*], rfl⟩
/-- The number in the box, for the loop's measure. -/
def inBox (Bn : Nat) (W : World) : Nat := match W.cell? ⟨Bn, 0, none⟩ with | some (.int _ q) => q.toNat | _ => 0
theorem inBox_eq {Bn : Nat} {W : World} {q : Int} (h : W.cell? ⟨Bn, 0, none⟩ = some (.int .i64 q)) : inBox Bn W = q.toNat := by unfold inBox; rw [h]
set_option maxRecDepth 100000 in
set_option maxHeartbeats 4000000 in
theorem up_in (n : Nat) (hn : 1 ≤ n) (l Bn : Nat) (k : Nat) (q0 : Int) (xs : List Int) (hu : upl k q0 = some xs) (J Jx : List Int → World → Prop) (hJc : ∀ s A v, J s A → J s (A.setCell ⟨Bn, 0, none⟩ v))
    (hY : ∀ pre x W, J pre W → pre.length < xs.length → YieldAt Fence.wide (n - 1) Try.prog l #[.int .i64 x] W fun e W' =>
      (e = .returned (.bool true) ∧ J (pre ++ [x]) W' ∧ KeepBox Bn W W') ∨ (e = .returned (.bool false) ∧ Jx (pre ++ [x]) W'))
    (W : World) (hc : W.cell? ⟨Bn, 0, none⟩ = some (.int .i64 q0)) (hf : W.frozen? ⟨Bn, 0, none⟩ = false) (h0 : J [] W) :
    CallsIn Fence.wide n Try.prog 27 #[.func (.yield l) #[] #[], .pointer (some ⟨Bn, 0, none⟩)] W fun e W' => (∃ v, e = .returned v) ∧
      ((∃ ys, ys = xs ∧ J ys W') ∨ (∃ pre, pre <+: xs ∧ Jx pre W')) := by
  refine callsIn_of_wp Try.func27 rfl trivial ?_ rfl
  simp only [Try.ntmps27, List.size_toArray, List.length_cons, List.length_nil, Nat.reduceAdd, Nat.reduceSub, Array.replicate_succ, Array.replicate_zero, List.push_toArray, List.append_toArray, List.nil_append, List.cons_append]
  gi_wp2
  gi_loopw [] (fun wr => ∃ (pre rest : List Int) (q : Int) (kk : Nat), xs = pre ++ rest ∧ upl kk q = some rest ∧ wr.cell? ⟨Bn, 0, none⟩ = some (.int .i64 q) ∧ wr.frozen? ⟨Bn, 0, none⟩ = false ∧ J pre wr)
    (fun wr => inBox Bn wr)
  case atStart =>
    exact ⟨[], xs, q0, k, rfl, hu, hc, hf, h0⟩
  case round =>
    obtain ⟨pre, rest, q, kk, hx, hl, hq, hqf, hJs⟩ := hrel
    cases kk with
    | zero => cases hl
    | succ kk =>
      simp only [upl] at hl
      by_cases hpos : 0 < q
      · rw [if_pos hpos] at hl
        obtain ⟨rest', hr', rfl⟩ := Option.map_eq_some_iff.mp hl
        obtain ⟨fn, tmps, assign, body, hy, hR⟩ := hY pre q wr hJs (by rw [hx]; simp)
        have hpd : decide (0 < q) = true := decide_eq_true hpos
        gi_wp2
        refine hR.mono ?_
        rintro e W3 (⟨rfl, hJ3, hk3⟩ | ⟨rfl, hJx3⟩)
        · have hq3 : W3.cell? ⟨Bn, 0, none⟩ = some (.int .i64 q) := hk3.cell.trans hq
          have hf3 : W3.frozen? ⟨Bn, 0, none⟩ = false := hk3.frozen.trans hqf
          gi_wp2_with (refine ⟨trivial, ?_⟩; gi_at_call 11; refine (parent_in _ q _).mono ?_; rintro e w9 ⟨rfl, e9⟩; cases e9)
          go_roundw
          case rel => exact ⟨pre ++ [q], rest', _, kk, by simp [hx], hr', World.cell?_setCell_same' _ _ _ (by rw [hq3]; rfl), by rw [World.frozen?_setCell]; exact hf3, hJc _ _ _ hJ3⟩
          case measure =>
            rw [inBox_eq hq, inBox_eq (q := mx q 0 / 2) (World.cell?_setCell_same' _ _ _ (by rw [hq3]; rfl))]
            have : mx q 0 = q := by unfold mx; split <;> omega
            omega
        · gi_wp2
          refine bodyPost_ret (results_none rfl _ _ _) rfl ?_
          exact ⟨⟨_, rfl⟩, .inr ⟨pre ++ [q], ⟨rest', by simp [hx]⟩, hJx3⟩⟩
      · rw [if_neg hpos] at hl
        obtain rfl := Option.some.inj hl
        have hpd : decide (0 < q) = false := decide_eq_false hpos
        gi_wp2
        go_end0
        exact ⟨⟨_, rfl⟩, .inl (by first | exact hJs | exact ⟨pre, by simp [hx], hJs⟩ | (simpa [hx] using hJs))⟩
theorem upl_chain : ∀ (k : Nat) (q : Int) (xs : List Int), upl k q = some xs → xs.length ≤ k
  | 0, _, _, h => by cases h
  | k + 1, q, xs, h => by
    simp only [upl] at h
    split at h
    · obtain ⟨r, hr, rfl⟩ := Option.map_eq_some_iff.mp h
      have := upl_chain k _ r hr
      simp; omega
    · obtain rfl := Option.some.inj h
      simp
theorem info3_ : (Try.prog.info? 3).map (fun i => (i.zero, i.size, i.bytes)) = some (some (.int .i64 0), 1, 8) := by kernel_rfl
set_option maxRecDepth 100000 in
set_option maxHeartbeats 4000000 in
theorem append_in (n : Nat) (hn : 4 ≤ n) (Bn : Nat) (k : Nat) (hk : k ≤ 100) (q0 : Int) (xs : List Int) (hu : upl k q0 = some xs) (w : World) (hBn : Bn < w.heap.size) (hc : w.cell? ⟨Bn, 0, none⟩ = some (.int .i64 q0)) (hf : w.frozen? ⟨Bn, 0, none⟩ = false) :
    CallsIn Fence.wide n Try.prog 26 #[.slice none 0 0, .func (.func 27) #[] #[.pointer (some ⟨Bn, 0, none⟩)]] w fun e W' => ∃ v, e = .returned v ∧ W'.ownsRow w.heap.size 3 1 v xs.length (xs.map (Value.int .i64)) ∧ ∀ B, B ≤ Bn → Below B w W' := by
  have h1 : 1 ≤ n := by omega
  have hlen := upl_chain k q0 xs hu
  obtain ⟨i0, hi, hz0, hz1, hz2⟩ := info_parts info3_
  refine callsIn_of_wp_marks Try.func26 rfl trivial ?_ rfl
  simp only [Try.ntmps26, List.size_toArray, List.length_cons, List.length_nil, Nat.reduceAdd, Nat.reduceSub, Array.replicate_succ, Array.replicate_zero, List.push_toArray, List.append_toArray, List.nil_append, List.cons_append]
  gi_wp2
  have bO := Boxed.new w 26 (.slice none 0 0)
  have hc1 : (w.alloc (.cells #[.slice none 0 0] 26)).cell? ⟨Bn, 0, none⟩ = some (.int .i64 q0) := (((Below.refl _ w).alloc (Nat.le_refl _) _).cell (p := ⟨Bn, 0, none⟩) hBn).trans hc
  have hf1 : (w.alloc (.cells #[.slice none 0 0] 26)).frozen? ⟨Bn, 0, none⟩ = false := (((Below.refl _ w).alloc (Nat.le_refl _) _).frozen (p := ⟨Bn, 0, none⟩) hBn).trans hf
  have hsz : (w.alloc (.cells #[.slice none 0 0] 26)).heap.size = w.heap.size + 1 := by simp
  refine range_box rfl h1 (gf := 27) (lb := #[.pointer (some ⟨Bn, 0, none⟩)]) rfl trivial (enters_of Try.func27 (by kernel_rfl) rfl) (S := fun ys => ys = xs) (Sp := fun pre => pre <+: xs) (N := xs.length) (Bn := Bn) rfl (by omega)
    (fun l J Jx W hW hJc hY h0 => up_in (n - 1) (by omega) l Bn k q0 xs hu J Jx hJc hY W ((hW.cell (p := ⟨Bn, 0, none⟩) (by show Bn < _; omega)).trans hc1) ((hW.frozen (p := ⟨Bn, 0, none⟩) (by show Bn < _; omega)).trans hf1) h0)
    (fun (pre : List Int) (W : World) => (∃ v : Value, Boxed W w.heap.size 26 v ∧ W.ownsRow w.heap.size 3 1 v pre.length (pre.map (Value.int .i64)) ∧ True) ∧ Below Bn w W ∧ w.heap.size + 1 ≤ W.heap.size)
    (fun _ _ _ => False)
    (OwnFrom.and (Own.from (holdsRow_own w.heap.size w.heap.size 26 3 1 (fun (pre : List Int) => pre.length) (fun (pre : List Int) => pre.map (Value.int .i64)) (fun (pre : List Int) (v : Value) => True)) _) (fun s A B row hs hg hr => ⟨hs.1.grown hg (by have := hs.1.size; omega) (fun r e => by have := (hr r e).1; omega), Nat.le_trans hs.2 hg.size⟩))
    (fun _ _ _ _ _ hs _ _ => hs)
    ?cell ⟨⟨_, bO, World.ownsRow_nil _ _ _ _, trivial⟩, (Below.refl _ w).alloc (by omega) _, by omega⟩
    (fun x => { tmps := #[.slice none 0 0, .func (.func 27) #[] #[.pointer (some ⟨Bn, 0, none⟩)], .pointer (some ⟨w.heap.size, 0, none⟩), undef, .slice none 0 0, .int .i64 x, .func (.func 27) #[] #[.pointer (some ⟨Bn, 0, none⟩)], .int .i64 x, undef, undef, undef, undef, undef], defers := [] }) ?assign ?body ?done ?stop
  case cell =>
    rintro s A v ⟨⟨u, hv, hrow, _⟩, hB, hs⟩
    refine ⟨⟨u, hv.kept (grownBy_setCell' A Bn v) (fun e => by cases e; omega), hrow.kept (grownBy_setCell' A Bn v) ?_, trivial⟩, hB.setCell (p := ⟨Bn, 0, none⟩) (Nat.le_refl _) _, Nat.le_trans hs (grownBy_setCell' A Bn v).size⟩
    rcases hrow.2 with ⟨rfl, _⟩ | ⟨g, cap, cur, rfl, hb, _, _⟩
    · exact .inl rfl
    · exact .inr fun e => by simp [Value.ownBlock] at e; omega
  case assign =>
    intro l x W K hK
    gi_wp2
    exact hK
  case body =>
    rintro l pre x W ⟨⟨v, hv, hrow, _⟩, hB, hs⟩ hlt
    have hc := hv.cell
    gi_wp2_with (gi_at_builtin; refine wpListIn_append_own _ rfl _ _ 26 rfl w.heap.size 3 i0 (.int .i64 0) 1 8 Try.underlying26 hi hz0 hz1 hz2 rfl (by decide) _ _ _ rfl (hrow.alloc _) ⟨W.heap.size, 0, none⟩ 1 1 [.int .i64 x] rfl rfl (cell_one_new _ _ _) (by simp [Value.oneCell']) (by unfold maxLen; omega) (by omega) (by simp; omega) ?_; intro v' w1 hown' hgrow _; obtain ⟨g', cap', rfl⟩ := ownsRow_succ hown'; obtain ⟨hv1, hv2, hr2, hk2, hb2⟩ := hv.appended (by decide) hrow (by omega) (Nat.le_refl _) hown' hgrow; have hc1 := hv1.cell; have hf1 := hv1.frozen)
    exact ⟨hk2.from _, hb2.block _ hBn, ⟨_, hv2, by simpa using hr2, trivial⟩, hB.trans (hb2.mono (by omega)), by have := hk2.size; omega⟩
  case done =>
    rintro D ys W hD rfl ⟨⟨v, hv, hrow, _⟩, hB, hs⟩ hK
    have hc := hv.cell
    gi_wp2
    refine ⟨by simp, .inl ⟨_, _, rfl, run_takeDeferred hK, ?_⟩⟩
    exact ⟨_, results_tmp rfl _ _ _, v, rfl, ownsRow_putObj hrow _ hK rfl, fun B hBle => (hB.mono hBle).trans (belowK_b (w := w) (n₀ := B) (by omega) W D _ _ (by omega) hK rfl rfl)⟩
  case stop =>
    rintro D c pre W _ _ h _
    exact h.elim
set_option maxRecDepth 100000 in
set_option maxHeartbeats 4000000 in
theorem collect_in (n : Nat) (hn : 5 ≤ n) (Bn : Nat) (k : Nat) (hk : k ≤ 100) (q0 : Int) (xs : List Int) (hu : upl k q0 = some xs) (w : World) (hBn : Bn < w.heap.size) (hc : w.cell? ⟨Bn, 0, none⟩ = some (.int .i64 q0)) (hf : w.frozen? ⟨Bn, 0, none⟩ = false) :
    CallsIn Fence.wide n Try.prog 22 #[.func (.func 27) #[] #[.pointer (some ⟨Bn, 0, none⟩)]] w fun e W' => ∃ v, e = .returned v ∧ W'.ownsRow w.heap.size 3 1 v xs.length (xs.map (Value.int .i64)) ∧ ∀ B, B ≤ Bn → Below B w W' := by
  refine callsIn_of_wp Try.func22 rfl trivial ?_ rfl
  simp only [Try.ntmps22, List.size_toArray, List.length_cons, List.length_nil, Nat.reduceAdd, Nat.reduceSub, Array.replicate_succ, Array.replicate_zero, List.push_toArray, List.append_toArray, List.nil_append, List.cons_append]
  gi_wp2
  refine ⟨trivial, fun _ => by omega, (append_in (n - 1) (by omega) Bn k hk q0 xs hu _ hBn hc hf).mono ?_⟩
  rintro e w9 ⟨v9, rfl, hown, hbel⟩
  gi_wp2
  go_ret
  exact ⟨v9, rfl, hown, hbel⟩
set_option maxHeartbeats 4000000 in
theorem up_calls (a0 : Int) (w : World) : Calls Try.prog 23 #[.int .i64 a0] w fun e w' => e = .returned (.func (.func 27) #[] #[.pointer (some ⟨w.heap.size, 0, none⟩)]) ∧ w' = w.alloc (.cells #[.int .i64 a0] 3) := by
  go_enter Try.func23, Try.ntmps23
  go_wp2
  go_ret
  exact ⟨rfl, rfl⟩
/-- The way up from a leaf of a tree that is no deeper than 4. -/
def shape_Path.f (a0 : Int) (a1 : Int) : Option (List Int) := (shape_Leaf.f a0 a1).bind fun q => upl 6 q
set_option maxHeartbeats 4000000 in
theorem shape_Path.calls (a0 : Int) (a1 : Int) (r : List Int) (w : World) (h : shape_Path.f a0 a1 = some r) :
    Calls Try.prog 16 #[.int .i64 a0, .int .i64 a1] w fun e w' => ∃ v0_ : Value, e = .returned (v0_) ∧ Kd.R (Kd.int .i64) 3 w' w.heap.size (fun _ => True) v0_ r ∧ Below w.heap.size w w' := by
  obtain ⟨q, hq, hu⟩ := Option.bind_eq_some_iff.mp h
  have HQ := Aside0.mk hq
  have HU := Aside0.mk hu
  clear h hq hu
  go_enter Try.func16, Try.ntmps16
  go_wp2_with (first | (go_at_call 9; refine (shape_Leaf.calls a0 a1 q _ HQ.out).mono ?_; rintro e w1 ⟨rfl, hb0⟩; have hb1 : Below w.heap.size w w1 := (by first | exact hb0 | exact hb0.below)) | (go_at_call 23; refine (up_calls q _).mono ?_; rintro e w2 ⟨rfl, e2⟩; cases e2))
  refine (callsIn_wide.1 (collect_in 9 (by omega) w1.heap.size 6 (by omega) q r HU.out _ (by simp) (Boxed.new w1 3 _).cell (Boxed.new w1 3 _).frozen)).mono ?_
  rintro e w3 ⟨v3, rfl, hown3, hb3⟩
  go_wp2
  go_ret
  exact ⟨v3, rfl, Kd.R_lower (Kd.R_of_own hown3 (fun _ _ => trivial)) (by have := hb1.size; simp; omega), (hb1.alloc hb1.size _).trans (hb3 _ hb1.size)⟩
end

/-! ### millstreamref07_Path: function 17 -/
def millstreamref07_Path.l0 : Nat → List Int → Int → Option (List Int)
 | 0, _, _ => none
 | k + 1, x5, x6 => if x6 > 0 then (if x5.length < 17592186044416 then ((millstreamref07_Parent.f x6).bind fun t113 => (millstreamref07_Path.l0 k (x5 ++ [x6]) t113)) else (none)) else (some x5)
def millstreamref07_Path.f (k : Nat) (a0 : Int) (a1 : Int) : Option (List Int) := (millstreamref07_Leaf.f k a0 a1).bind fun t109 => (millstreamref07_Path.l0 k (([] : List Int)) t109)
theorem millstreamref07_Path.mono_l : ∀ k, (∀ y0 y1, LeO (millstreamref07_Path.l0 k y0 y1) (millstreamref07_Path.l0 (k + 1) y0 y1))
 | 0 => fun _ _ r h => by simp [millstreamref07_Path.l0] at h
 | k + 1 => by
  have ih0 := millstreamref07_Path.mono_l k
  ·intro y0 y1
   unfold millstreamref07_Path.l0
   repeat' first
   | (with_reducible exact ih0 _ _)
   | (with_reducible exact millstreamref07_Leaf.mono _ _ _)
   | (with_reducible exact LeO.refl _)
   | (with_reducible exact LeO.none _)
   | (with_reducible refine LeO.ite ?_ ?_)
   | (with_reducible refine LeO.bind ?_ (fun _ => ?_))
   | exact ih0 _ _
   | exact millstreamref07_Leaf.mono _ _ _
   | exact LeO.none _
   | refine LeO.ite ?_ ?_
   | refine LeO.bind ?_ (fun _ => ?_)
theorem millstreamref07_Path.mono : ∀ a0 a1 k, LeO (millstreamref07_Path.f k a0 a1) (millstreamref07_Path.f (k + 1) a0 a1) := by
 intro a0 a1 k
 have ih0 := millstreamref07_Path.mono_l k
 unfold millstreamref07_Path.f
 repeat' first
   | (with_reducible exact ih0 _ _)
   | (with_reducible exact millstreamref07_Leaf.mono _ _ _)
   | (with_reducible exact LeO.refl _)
   | (with_reducible exact LeO.none _)
   | (with_reducible refine LeO.ite ?_ ?_)
   | (with_reducible refine LeO.bind ?_ (fun _ => ?_))
   | exact ih0 _ _
   | exact millstreamref07_Leaf.mono _ _ _
   | exact LeO.none _
   | refine LeO.ite ?_ ?_
   | refine LeO.bind ?_ (fun _ => ?_)
set_option maxHeartbeats 60000000 in
set_option maxRecDepth 100000 in
theorem millstreamref07_Path.calls (k : Nat) (a0 : Int) (a1 : Int) (r : List Int) (w : World) (h : millstreamref07_Path.f k a0 a1 = some r) :
  Calls Try.prog 17 #[.int .i64 a0, .int .i64 a1] w fun e w' => ∃ v0_ : Value, e = .returned (v0_) ∧ Kd.R (Kd.int .i64) 3 w' w.heap.size (fun _ => True) v0_ r ∧ Below w.heap.size w w' := by
 have HB := Aside0.mk (Below.refl w.heap.size w)
 have H : ((millstreamref07_Leaf.f k a0 a1).bind fun t109 => (millstreamref07_Path.l0 k (([] : List Int)) t109)) = some r := h
 clear h
 obtain ⟨y106, hy106⟩ : ∃ y_ : List Int, y_ = (([] : List Int)) := ⟨_, rfl⟩
 replace H : ((millstreamref07_Leaf.f k a0 a1).bind fun t109 => (millstreamref07_Path.l0 k y106 t109)) = some r := by first | (rw [hy106]; with_reducible exact H) | (have H2_ := (Option.bind_some _ _).symm.trans H; rw [hy106]; with_reducible exact H2_) | (have H2_ := (Option.bind_some _ _).symm.trans H; with_reducible exact H2_) | with_reducible exact H | (rw [hy106]; exact H) | exact H
 have Ny106 := Aside0.mk hy106
 clear hy106
 replace H := Option.bind_eq_some_iff.mp H
 obtain ⟨t109, A30, H⟩ := H
 replace H : (millstreamref07_Path.l0 k y106 t109) = some r := H
 have A3 := Aside0.mk A30
 clear A30
 have H' := Aside0.mk H
 clear H
 go_enter Try.func17, Try.ntmps17
 go_wp2_with (first | ((with_reducible refine gate_dst (N := 7) rfl ?_); refine Kd.R_lit (Kd.int .i64) _ 3 ?hg (N := 7) ?hd (xs := ([] : List Int)) (inner := []) (ok := fun _ => True) (okp := fun _ => True) ?hr ?hp (fun _ hk => hk) trivial (Below.refl _ _) (Nat.le_refl _) (by simp) ?_; (case hd => rfl); (case hg => rfl); (case hr => first | (go_simp; done) | (go_simp; rfl)); (case hp => exact (Reps.none _ _)); intro v107 w4 ho5 hb hg_ hnew_; clear hg_ hnew_; (first | rw [← Ny106.out] at ho5 | (simp only [Int.reduceToNat] at ho5; rw [← Ny106.out] at ho5)); have n0_ := Aside0.mk (Kd.R_lower ho5 (below_size (by repeat (first | (with_reducible first | exact HB.out | apply below_alloc | apply pw_below_drewN | apply below_drew1) | exact HB.out)))); have n1_ := Aside0.mk (below_step (by repeat (first | (with_reducible first | exact HB.out | apply below_alloc | apply pw_below_drewN | apply below_drew1) | exact HB.out)) hb); clear HB; have HO108 := n0_; have HB := n1_; clear n0_ n1_; clear hb ho5) | ((with_reducible refine gate_callee (f := 10) rfl ?_); refine goesL_ (some 10) rfl rfl Try.func10 (by kernel_rfl) rfl #[.int .i64 a0, .int .i64 a1] rfl (by (try simp only [List.map_toArray, List.map_cons, List.map_nil]); first | done | rfl | (simp only [List.length_drop, List.length_take]; rfl)) ?_; (with_reducible refine (millstreamref07_Leaf.calls k a0 a1 t109 _ A3.out).mono ?_); rintro e w' ⟨rfl, ⟨nd, rfl⟩⟩; refine ⟨_, rfl, ?_⟩))
 go_loopg [5, 6] k (fun kq v5 v6 w' => ∃ (x5_1 : List Int) (x6_1 : Int), v6 = .int .i64 x6_1 ∧ Aside0 (millstreamref07_Path.l0 kq x5_1 x6_1 = some r) ∧ Aside0 (kq ≤ k) ∧ Aside0 (Kd.R (Kd.int .i64) 3 w' w.heap.size (fun _ => True) v5 x5_1) ∧ Aside0 (Below w.heap.size w w'))
 case atStart => exact ⟨(y106), (t109), (by first | rfl | (simp; done) | (simp [*]; done)), H', ⟨Nat.le_refl _⟩, ⟨by (with_reducible repeat (first | apply Kd.R_alloc | apply Kd.R_drewN | apply Kd.R_drew)); exact HO108.out⟩, ⟨by repeat (first | (with_reducible first | exact HB.out | apply below_alloc | apply pw_below_drewN | apply below_drew1) | exact HB.out)⟩⟩
 case round =>
  clear H'
  try clear c1
  try clear p2
  obtain ⟨x5_1, x6_1, rfl, HA, HK1, HO_5, HB⟩ := hrel
  cases gk with
  | zero => exact absurd HA.out (by simp [millstreamref07_Path.l0])
  | succ k1 =>
   have H := HA.out
   clear HA
   simp only [millstreamref07_Path.l0] at H
   by_cases c6 : x6_1 > 0
   ·rw [if_pos c6] at H
    have c6b0 : decide (0 < x6_1) = true := decide_eq_true c6
    clear c6
    by_cases c7 : x5_1.length < 17592186044416
    ·rw [if_pos c7] at H
     have LMc7 := Aside0.mk c7
     clear c7
     obtain ⟨y110, hy110⟩ : ∃ y_ : List Int, y_ = (x5_1 ++ [x6_1]) := ⟨_, rfl⟩
     replace H : ((millstreamref07_Parent.f x6_1).bind fun t113 => (millstreamref07_Path.l0 k1 y110 t113)) = some r := by first | (rw [hy110]; with_reducible exact H) | (have H2_ := (Option.bind_some _ _).symm.trans H; rw [hy110]; with_reducible exact H2_) | (have H2_ := (Option.bind_some _ _).symm.trans H; with_reducible exact H2_) | with_reducible exact H | (rw [hy110]; exact H) | exact H
     have Ny110 := Aside0.mk hy110
     clear hy110
     replace H := Option.bind_eq_some_iff.mp H
     obtain ⟨t113, A80, H⟩ := H
     replace H : (millstreamref07_Path.l0 k1 y110 t113) = some r := H
     have A8 := Aside0.mk A80
     clear A80
     have H' := Aside0.mk H
     clear H
     go_wp2_with (first | ((with_reducible refine gate_builtin (b := .append) (xs := #[.tmp 15, .tmp 17]) rfl ?_); at_builtin; refine Kd.R_append (Kd.int .i64) (w0 := w) w.heap.size rfl (.tmp 15) (.tmp 17) 26 3 (.int .i64 0) 8 rfl Try.underlying26 info3 rfl (by decide) (by omega) u5 x5_1 x6_1 [.int .i64 x6_1] (fun _ => True) (fun _ => False) rfl rfl ?aP (fun _ hk => hk.elim) ?aF ?aO ?aB ?aS ?aL ?_; (case aP => exact rfl); (case aB => exact (by repeat (first | (with_reducible first | exact HB.out | apply below_alloc | apply pw_below_drewN | apply below_drew1) | exact HB.out))); (case aF => exact (fun _ _ => trivial)); (case aO => exact (by (with_reducible repeat (first | apply Kd.R_alloc | apply Kd.R_drewN | apply Kd.R_drew)); exact HO_5.out)); (case aS => exact (below_size (by repeat (first | (with_reducible first | exact HB.out | apply below_alloc | apply pw_below_drewN | apply below_drew1) | exact HB.out)))); (case aL => have := LMc7.out; omega); intro v111 w9 ho hb hg hat; rw [← Ny110.out] at ho; have n0_ := Aside0.mk (hb); have n1_ := Aside0.mk (ho); clear HB; clear HO_5; have HB := n0_; have HO112 := n1_; clear n0_ n1_; clear ho hb hg hat) | ((with_reducible refine gate_callee (f := 12) rfl ?_); refine goesL_ (some 14) rfl rfl Try.func12 (by kernel_rfl) rfl #[.int .i64 x6_1] rfl (by (try simp only [List.map_toArray, List.map_cons, List.map_nil]); first | done | rfl | (simp only [List.length_drop, List.length_take]; rfl)) ?_; (with_reducible refine (millstreamref07_Parent.calls x6_1 t113 _ A8.out).mono ?_); rintro e w' ⟨rfl, ⟨nd, rfl⟩⟩; refine ⟨_, rfl, ?_⟩))
     go_roundg k1
     case measure => have := HK1.out; omega
     case rel => exact ⟨(y110), (t113), (by first | rfl | (simp; done) | (simp [*]; done)), H', ⟨by have := HK1.out; omega⟩, ⟨by (with_reducible repeat (first | apply Kd.R_alloc | apply Kd.R_drewN | apply Kd.R_drew)); exact HO112.out⟩, ⟨by repeat (first | (with_reducible first | exact HB.out | apply below_alloc | apply pw_below_drewN | apply below_drew1) | exact HB.out)⟩⟩
    ·rw [if_neg c7] at H
     exact absurd H (by simp)
   ·rw [if_neg c6] at H
    have c6b0 : decide (0 < x6_1) = false := decide_eq_false c6
    clear c6
    obtain rfl := Option.some.inj H
    go_wp2
    go_ret
    exact ⟨_, by first | rfl | (simp [errW_none, errW_some] <;> rfl) | (simp [*, errW_none, errW_some] <;> rfl), by (with_reducible repeat (first | apply Kd.R_alloc | apply Kd.R_drewN | apply Kd.R_drew)); exact HO_5.out, by repeat (first | (with_reducible first | exact HB.out | apply below_alloc | apply pw_below_drewN | apply below_drew1) | exact HB.out)⟩

/-! ### shape_Meet: function 18 -/
section
open Go.Shelf
attribute [local go_sem] Oper.semAt_some
/-- Where a second way, that goes on from o, meets this one; 0: nowhere. -/
def mtl : List Int → Int → Int
  | [], _ => 0
  | n :: r, o => if n = o then n else mtl r (mx o 0 / 2)
/-- The second way's node behind as many steps. -/
def oth : List Int → Int → Int
  | [], o => o
  | _ :: r, o => oth r (mx o 0 / 2)
theorem oth_snoc : ∀ (pre : List Int) (x o : Int), oth (pre ++ [x]) o = mx (oth pre o) 0 / 2
  | [], _, _ => rfl
  | _ :: r, x, o => oth_snoc r x (mx o 0 / 2)
def shape_Meet.f (a0 : Int) (a1 : Int) (a2 : Int) : Option Int := (shape_Leaf.f a0 a2).bind fun o => (shape_Leaf.f a0 a1).bind fun q => (upl 6 q).bind fun xs => some (mtl xs o)
theorem other_cell {W : World} {b c : Nat} {u : Option Value} (v : Value) (h : W.cell? ⟨b, 0, none⟩ = u) (hne : b ≠ c) : (W.setCell ⟨c, 0, none⟩ v).cell? ⟨b, 0, none⟩ = u := by
  unfold World.cell? at h ⊢
  rw [Below.heap_setCell W ⟨c, 0, none⟩ v b (by simpa using hne)]
  exact h
set_option maxRecDepth 100000 in
set_option maxHeartbeats 4000000 in
theorem shape_Meet.walk (a0 a1 a2 o q : Int) (xs : List Int) (w : World) (ho : shape_Leaf.f a0 a2 = some o) (hq : shape_Leaf.f a0 a1 = some q) (hu : upl 6 q = some xs) :
    CallsIn Fence.wide 9 Try.prog 18 #[.int .i64 a0, .int .i64 a1, .int .i64 a2] w fun e w' => e = .returned (.int .i64 (mtl xs o)) ∧ Below w.heap.size w w' := by
  have HO := Aside0.mk ho
  have HQ := Aside0.mk hq
  clear ho hq
  have h1 : 1 ≤ 9 := by omega
  refine callsIn_of_wp_marks Try.func18 rfl trivial ?_ rfl
  simp only [Try.ntmps18, List.size_toArray, List.length_cons, List.length_nil, Nat.reduceAdd, Nat.reduceSub, Array.replicate_succ, Array.replicate_zero, List.push_toArray, List.append_toArray, List.nil_append, List.cons_append]
  gi_wp2
  refine ⟨trivial, (callsIn_wide.2 (shape_Leaf.calls a0 a2 o _ HO.out)).mono ?_⟩
  rintro e w1 ⟨rfl, hb0⟩
  have hb1 : Below (w.heap.size + 1) (w.alloc (.cells #[.int .i64 0] 3)) w1 := by
    have h : Below (w.alloc (.cells #[.int .i64 0] 3)).heap.size (w.alloc (.cells #[.int .i64 0] 3)) w1 := by first | exact hb0 | exact hb0.below
    simpa using h
  clear hb0
  have r1 : Boxed w1 w.heap.size 3 (.int .i64 0) := (hb1.block _ (by omega)).trans (Boxed.new w 3 _)
  have s1 := r1.lt
  gi_wp2
  have b2 := Boxed.new w1 3 (.int .i64 o)
  obtain ⟨S1, hS1⟩ : ∃ S1, w1.alloc (.cells #[.int .i64 o] 3) = S1 := ⟨_, rfl⟩
  have hB1 : Below w1.heap.size w1 S1 := by rw [← hS1]; exact (Below.refl _ w1).alloc (Nat.le_refl _) _
  rw [hS1] at b2 ⊢
  have r2 : Boxed S1 w.heap.size 3 (.int .i64 0) := (hB1.block _ s1).trans r1
  have s2 := b2.lt
  refine ⟨trivial, (callsIn_wide.2 (shape_Leaf.calls a0 a1 q _ HQ.out)).mono ?_⟩
  rintro e w2 ⟨rfl, hb0⟩
  have hb2 : Below S1.heap.size S1 w2 := by first | exact hb0 | exact hb0.below
  clear hb0
  have r3 : Boxed w2 w.heap.size 3 (.int .i64 0) := (hb2.block _ r2.lt).trans r2
  have b3 : Boxed w2 w1.heap.size 3 (.int .i64 o) := (hb2.block _ s2).trans b2
  have s3 := b3.lt
  gi_wp2
  refine ⟨trivial, (callsIn_wide.2 (up_calls q _)).mono ?_⟩
  rintro e w3 ⟨rfl, e3⟩
  cases e3
  gi_wp2
  have n3 := Boxed.new w2 3 (.int .i64 q)
  have hBW : Below w.heap.size w (w2.alloc (.cells #[.int .i64 q] 3)) := ((((Below.refl _ w).alloc (Nat.le_refl _) _).trans (hb1.mono (by omega))).trans ((hB1.mono (by omega)).trans (hb2.mono (by have := r2.lt; omega)))).alloc (by omega) _
  have hsz : (w2.alloc (.cells #[.int .i64 q] 3)).heap.size = w2.heap.size + 1 := by simp
  refine range_box rfl (by omega) (gf := 27) (lb := #[.pointer (some ⟨w2.heap.size, 0, none⟩)]) rfl trivial (enters_of Try.func27 (by kernel_rfl) rfl) (S := fun ys => ys = xs) (Sp := fun pre => pre <+: xs) (N := xs.length) (Bn := w2.heap.size) rfl (by omega)
    (fun l J Jx W hW hJc hY h0 => up_in 8 (by omega) l w2.heap.size 6 q xs hu J Jx hJc hY W ((hW.cell (p := ⟨w2.heap.size, 0, none⟩) (by show w2.heap.size < _; omega)).trans n3.cell) ((hW.frozen (p := ⟨w2.heap.size, 0, none⟩) (by show w2.heap.size < _; omega)).trans n3.frozen) h0)
    (fun (pre : List Int) (W : World) => ((∀ rest, mtl (pre ++ rest) o = mtl rest (oth pre o)) ∧ W.cell? ⟨w.heap.size, 0, none⟩ = some (.int .i64 0) ∧ W.frozen? ⟨w.heap.size, 0, none⟩ = false ∧ W.cell? ⟨w1.heap.size, 0, none⟩ = some (.int .i64 (oth pre o)) ∧ W.frozen? ⟨w1.heap.size, 0, none⟩ = false) ∧ Below w.heap.size w W)
    (fun (c : Code) (pre : List Int) (W : World) => (c = .ret ∧ ∃ v, (∀ rest, mtl (pre ++ rest) o = v) ∧ W.cell? ⟨w.heap.size, 0, none⟩ = some (.int .i64 v)) ∧ Below w.heap.size w W)
    (OwnFrom.and (Own.from (fun s A B row hs hg hr => ⟨hs.1, cell_kept hs.2.1 hg hr, (frozen_kept hs.2.1 hg hr).trans hs.2.2.1, cell_kept hs.2.2.2.1 hg hr, (frozen_kept hs.2.2.2.1 hg hr).trans hs.2.2.2.2⟩) _) (ownFrom_below (Nat.le_refl _) (by omega)))
    (fun c => OwnFrom.and (Own.from (fun s A B row hs hg hr => ⟨hs.1, hs.2.elim fun v hv => ⟨v, hv.1, cell_kept hv.2 hg hr⟩⟩) _) (ownFrom_below (Nat.le_refl _) (by omega)))
    ?cell ⟨⟨fun _ => rfl, (r3.alloc _).cell, (r3.alloc _).frozen, (b3.alloc _).cell, (b3.alloc _).frozen⟩, hBW⟩
    (fun x => { tmps := #[.int .i64 a0, .int .i64 a1, .int .i64 a2, undef, undef, undef, .pointer (some ⟨w.heap.size, 0, none⟩), .pointer (some ⟨w1.heap.size, 0, none⟩), .int .i64 x, .int .i64 a0, .int .i64 a2, .int .i64 o, .int .i64 a0, .int .i64 a1, .int .i64 q, .func (.func 27) #[] #[.pointer (some ⟨w2.heap.size, 0, none⟩)], .int .i64 x, undef, undef, undef, undef, undef, undef], defers := [] }) ?assign ?body ?done ?stop
  case cell =>
    rintro s A v ⟨⟨h1, h2, h3, h4, h5⟩, hB⟩
    exact ⟨⟨h1, other_cell _ h2 (by omega), by rw [World.frozen?_setCell]; exact h3, other_cell _ h4 (by omega), by rw [World.frozen?_setCell]; exact h5⟩, hB.setCell (p := ⟨w2.heap.size, 0, none⟩) (by show w.heap.size ≤ w2.heap.size; omega) _⟩
  case assign =>
    intro l x W K hK
    gi_wp2
    exact hK
  case body =>
    rintro l pre x W ⟨⟨h1, h2, h3, h4, h5⟩, hB⟩ _
    gi_wp2_with (refine ⟨trivial, ?_⟩; gi_at_call 11; refine (CallsIn.inRound l (parent_in _ _ _)).mono ?_; rintro e w9 ⟨rfl, e9⟩; cases e9)
    · rename_i hx
      obtain rfl : x = oth pre o := eq_of_beq hx
      exact ⟨(KeepsOthers.setCell _ _ _).from _, ⟨rfl, _, fun rest => by rw [List.append_assoc, h1]; simp [mtl], World.cell?_setCell_same' _ _ _ (by rw [h2]; rfl)⟩, hB.setCell (p := ⟨w.heap.size, 0, none⟩) (Nat.le_refl _) _⟩
    · rename_i hx
      have hne : ¬ x = oth pre o := by simpa using hx
      exact ⟨(KeepsOthers.setCell _ _ _).from _, Below.heap_setCell W ⟨w1.heap.size, 0, none⟩ _ w2.heap.size (by show w2.heap.size ≠ w1.heap.size; omega), ⟨fun rest => by rw [List.append_assoc, h1, oth_snoc]; simp [mtl, hne], other_cell _ h2 (by omega), by rw [World.frozen?_setCell]; exact h3, by rw [oth_snoc]; exact World.cell?_setCell_same' _ _ _ (by rw [h4]; rfl), by rw [World.frozen?_setCell]; exact h5⟩, hB.setCell (p := ⟨w1.heap.size, 0, none⟩) (by show w.heap.size ≤ w1.heap.size; omega) _⟩
  case done =>
    rintro D ys W hD rfl ⟨⟨h1, h2, h3, h4, h5⟩, hB⟩ hK
    gi_wp2
    have hK' := (KeepsOthers.setCell W ⟨w.heap.size, 0, none⟩ (.int .i64 0)).same D _ hK rfl
    refine ⟨by simp, .inl ⟨_, _, rfl, run_takeDeferred hK', ?_⟩⟩
    have hc5 := cell_kept (World.cell?_setCell_same' W ⟨w.heap.size, 0, none⟩ (.int .i64 0) (by rw [h2]; rfl)) (grownBy_putObj' _ D (.deferred none)) (fun r e => by cases e; exact ⟨_, hK', rfl⟩)
    have hm : mtl ys o = 0 := by have := h1 []; rw [List.append_nil] at this; exact this
    refine ⟨.int .i64 0, ?_, by rw [hm], (hB.setCell (p := ⟨w.heap.size, 0, none⟩) (Nat.le_refl _) _).trans (belowK_b (w := w) (Nat.le_refl _) _ D _ _ (by omega) hK' rfl rfl)⟩
    simp [results, Try.f18, go_sem, hc5]
  case stop =>
    rintro D c pre W hD hpre ⟨⟨rfl, v, h1, h2⟩, hB⟩ hK
    gi_wp2
    refine ⟨by simp, .inl ⟨_, _, rfl, run_takeDeferred hK, ?_⟩⟩
    have hc5 := cell_kept h2 (grownBy_putObj' _ D (.deferred none)) (fun r e => by cases e; exact ⟨_, hK, rfl⟩)
    obtain ⟨rest, rfl⟩ := hpre
    refine ⟨.int .i64 v, ?_, by rw [h1 rest], hB.trans (belowK_b (w := w) (Nat.le_refl _) W D _ _ (by omega) hK rfl rfl)⟩
    simp [results, Try.f18, go_sem, hc5]
theorem shape_Meet.calls (a0 : Int) (a1 : Int) (a2 : Int) (r : Int) (w : World) (h : shape_Meet.f a0 a1 a2 = some r) :
    Calls Try.prog 18 #[.int .i64 a0, .int .i64 a1, .int .i64 a2] w fun e w' => e = .returned (.int .i64 r) ∧ Below w.heap.size w w' := by
  obtain ⟨o, ho, h⟩ := Option.bind_eq_some_iff.mp h
  obtain ⟨q, hq, h⟩ := Option.bind_eq_some_iff.mp h
  obtain ⟨xs, hu, h⟩ := Option.bind_eq_some_iff.mp h
  obtain rfl := Option.some.inj h
  exact callsIn_wide.1 (shape_Meet.walk a0 a1 a2 o q xs w ho hq hu)
end

/-! ### millstreamref07_Meet: function 19 -/
def millstreamref07_Meet.l0 : Nat → List Int → List Int → Int → Option (Int)
 | 0, _, _, _ => none
 | k + 1, x7, x8, x9 => if x9 < (x7.length : Int) then (if 0 ≤ x9 then (if x9 < (x8.length : Int) then (if (rd x7 x9) = (rd x8 x9) then (some (rd x7 x9)) else (millstreamref07_Meet.l0 k x7 x8 (wrap64 (x9 + 1)))) else (none)) else (none)) else (some 0)
def millstreamref07_Meet.f (k : Nat) (a0 : Int) (a1 : Int) (a2 : Int) : Option (Int) := (millstreamref07_Path.f k a0 a1).bind fun t114 => ((millstreamref07_Path.f k a0 a2).bind fun t117 => (millstreamref07_Meet.l0 k t114 t117 0))
theorem millstreamref07_Meet.mono_l : ∀ k, (∀ y0 y1 y2, LeO (millstreamref07_Meet.l0 k y0 y1 y2) (millstreamref07_Meet.l0 (k + 1) y0 y1 y2))
 | 0 => fun _ _ _ r h => by simp [millstreamref07_Meet.l0] at h
 | k + 1 => by
  have ih0 := millstreamref07_Meet.mono_l k
  ·intro y0 y1 y2
   unfold millstreamref07_Meet.l0
   repeat' first
   | (with_reducible exact ih0 _ _ _)
   | (with_reducible exact millstreamref07_Path.mono _ _ _)
   | (with_reducible exact LeO.refl _)
   | (with_reducible exact LeO.none _)
   | (with_reducible refine LeO.ite ?_ ?_)
   | (with_reducible refine LeO.bind ?_ (fun _ => ?_))
   | exact ih0 _ _ _
   | exact millstreamref07_Path.mono _ _ _
   | exact LeO.none _
   | refine LeO.ite ?_ ?_
   | refine LeO.bind ?_ (fun _ => ?_)
theorem millstreamref07_Meet.mono : ∀ a0 a1 a2 k, LeO (millstreamref07_Meet.f k a0 a1 a2) (millstreamref07_Meet.f (k + 1) a0 a1 a2) := by
 intro a0 a1 a2 k
 have ih0 := millstreamref07_Meet.mono_l k
 unfold millstreamref07_Meet.f
 repeat' first
   | (with_reducible exact ih0 _ _ _)
   | (with_reducible exact millstreamref07_Path.mono _ _ _)
   | (with_reducible exact LeO.refl _)
   | (with_reducible exact LeO.none _)
   | (with_reducible refine LeO.ite ?_ ?_)
   | (with_reducible refine LeO.bind ?_ (fun _ => ?_))
   | exact ih0 _ _ _
   | exact millstreamref07_Path.mono _ _ _
   | exact LeO.none _
   | refine LeO.ite ?_ ?_
   | refine LeO.bind ?_ (fun _ => ?_)
set_option maxHeartbeats 60000000 in
set_option maxRecDepth 100000 in
theorem millstreamref07_Meet.calls (k : Nat) (a0 : Int) (a1 : Int) (a2 : Int) (r : Int) (w : World) (h : millstreamref07_Meet.f k a0 a1 a2 = some r) :
  Calls Try.prog 19 #[.int .i64 a0, .int .i64 a1, .int .i64 a2] w fun e w' => e = .returned (.int .i64 r) ∧ Below w.heap.size w w' := by
 have HB := Aside0.mk (Below.refl w.heap.size w)
 have H : ((millstreamref07_Path.f k a0 a1).bind fun t114 => ((millstreamref07_Path.f k a0 a2).bind fun t117 => (millstreamref07_Meet.l0 k t114 t117 0))) = some r := h
 clear h
 replace H := Option.bind_eq_some_iff.mp H
 obtain ⟨t114, A40, H⟩ := H
 replace H : ((millstreamref07_Path.f k a0 a2).bind fun t117 => (millstreamref07_Meet.l0 k t114 t117 0)) = some r := H
 have A4 := Aside0.mk A40
 clear A40
 replace H := Option.bind_eq_some_iff.mp H
 obtain ⟨t117, A50, H⟩ := H
 replace H : (millstreamref07_Meet.l0 k t114 t117 0) = some r := H
 have A5 := Aside0.mk A50
 clear A50
 have H' := Aside0.mk H
 clear H
 go_enter Try.func19, Try.ntmps19
 go_wp2_with (first | (go_at_call 17; (with_reducible refine (millstreamref07_Path.calls k a0 a1 t114 _ A4.out).mono ?_); rintro e w6 ⟨v115, rfl, ho0, hb⟩; have n0_ := Aside0.mk (Kd.R_lower ho0 (below_size (by repeat (first | (with_reducible first | exact HB.out | apply below_alloc | apply pw_below_drewN | apply below_drew1) | exact HB.out)))); have n1_ := Aside0.mk (below_step (by repeat (first | (with_reducible first | exact HB.out | apply below_alloc | apply pw_below_drewN | apply below_drew1) | exact HB.out)) hb); clear HB; have HO116 := n0_; have HB := n1_; clear n0_ n1_; (try clear hb); (try clear hb2); (try clear hk); (try clear hi); (try clear ho0)) | (go_at_call 17; (with_reducible refine (millstreamref07_Path.calls k a0 a2 t117 _ A5.out).mono ?_); rintro e w7 ⟨v118, rfl, ho0, hb⟩; have n0_ := Aside0.mk (Kd.R_elder' (by (with_reducible repeat (first | apply Kd.R_alloc | apply Kd.R_drewN | apply Kd.R_drew)); exact HO116.out) (Kd.R_base ho0) hb); have n1_ := Aside0.mk (Kd.R_lower (Kd.R_new' ho0 (Kd.R_lt (by (with_reducible repeat (first | apply Kd.R_alloc | apply Kd.R_drewN | apply Kd.R_drew)); exact HO116.out))) (below_size (by repeat (first | (with_reducible first | exact HB.out | apply below_alloc | apply pw_below_drewN | apply below_drew1) | exact HB.out)))); have n2_ := Aside0.mk (below_step (by repeat (first | (with_reducible first | exact HB.out | apply below_alloc | apply pw_below_drewN | apply below_drew1) | exact HB.out)) hb); clear HO116; clear HB; have HO116 := n0_; have HO119 := n1_; have HB := n2_; clear n0_ n1_ n2_; (try clear hb); (try clear hb2); (try clear hk); (try clear hi); (try clear ho0)))
 repeat (go_quiet (first | (go_at_call 17; (with_reducible refine (millstreamref07_Path.calls k a0 a1 t114 _ A4.out).mono ?_); rintro e w6 ⟨v115, rfl, ho0, hb⟩; have n0_ := Aside0.mk (Kd.R_lower ho0 (below_size (by repeat (first | (with_reducible first | exact HB.out | apply below_alloc | apply pw_below_drewN | apply below_drew1) | exact HB.out)))); have n1_ := Aside0.mk (below_step (by repeat (first | (with_reducible first | exact HB.out | apply below_alloc | apply pw_below_drewN | apply below_drew1) | exact HB.out)) hb); clear HB; have HO116 := n0_; have HB := n1_; clear n0_ n1_; (try clear hb); (try clear hb2); (try clear hk); (try clear hi); (try clear ho0)) | (go_at_call 17; (with_reducible refine (millstreamref07_Path.calls k a0 a2 t117 _ A5.out).mono ?_); rintro e w7 ⟨v118, rfl, ho0, hb⟩; have n0_ := Aside0.mk (Kd.R_elder' (by (with_reducible repeat (first | apply Kd.R_alloc | apply Kd.R_drewN | apply Kd.R_drew)); exact HO116.out) (Kd.R_base ho0) hb); have n1_ := Aside0.mk (Kd.R_lower (Kd.R_new' ho0 (Kd.R_lt (by (with_reducible repeat (first | apply Kd.R_alloc | apply Kd.R_drewN | apply Kd.R_drew)); exact HO116.out))) (below_size (by repeat (first | (with_reducible first | exact HB.out | apply below_alloc | apply pw_below_drewN | apply below_drew1) | exact HB.out)))); have n2_ := Aside0.mk (below_step (by repeat (first | (with_reducible first | exact HB.out | apply below_alloc | apply pw_below_drewN | apply below_drew1) | exact HB.out)) hb); clear HO116; clear HB; have HO116 := n0_; have HO119 := n1_; have HB := n2_; clear n0_ n1_ n2_; (try clear hb); (try clear hb2); (try clear hk); (try clear hi); (try clear ho0))); try go_wp2_with (first | (go_at_call 17; (with_reducible refine (millstreamref07_Path.calls k a0 a1 t114 _ A4.out).mono ?_); rintro e w6 ⟨v115, rfl, ho0, hb⟩; have n0_ := Aside0.mk (Kd.R_lower ho0 (below_size (by repeat (first | (with_reducible first | exact HB.out | apply below_alloc | apply pw_below_drewN | apply below_drew1) | exact HB.out)))); have n1_ := Aside0.mk (below_step (by repeat (first | (with_reducible first | exact HB.out | apply below_alloc | apply pw_below_drewN | apply below_drew1) | exact HB.out)) hb); clear HB; have HO116 := n0_; have HB := n1_; clear n0_ n1_; (try clear hb); (try clear hb2); (try clear hk); (try clear hi); (try clear ho0)) | (go_at_call 17; (with_reducible refine (millstreamref07_Path.calls k a0 a2 t117 _ A5.out).mono ?_); rintro e w7 ⟨v118, rfl, ho0, hb⟩; have n0_ := Aside0.mk (Kd.R_elder' (by (with_reducible repeat (first | apply Kd.R_alloc | apply Kd.R_drewN | apply Kd.R_drew)); exact HO116.out) (Kd.R_base ho0) hb); have n1_ := Aside0.mk (Kd.R_lower (Kd.R_new' ho0 (Kd.R_lt (by (with_reducible repeat (first | apply Kd.R_alloc | apply Kd.R_drewN | apply Kd.R_drew)); exact HO116.out))) (below_size (by repeat (first | (with_reducible first | exact HB.out | apply below_alloc | apply pw_below_drewN | apply below_drew1) | exact HB.out)))); have n2_ := Aside0.mk (below_step (by repeat (first | (with_reducible first | exact HB.out | apply below_alloc | apply pw_below_drewN | apply below_drew1) | exact HB.out)) hb); clear HO116; clear HB; have HO116 := n0_; have HO119 := n1_; have HB := n2_; clear n0_ n1_ n2_; (try clear hb); (try clear hb2); (try clear hk); (try clear hi); (try clear ho0))))
 go_loopg [9] k (fun kq v9 w' => ∃ (x9_1 : Int), v9 = .int .i64 x9_1 ∧ Aside0 (millstreamref07_Meet.l0 kq t114 t117 x9_1 = some r) ∧ Aside0 (kq ≤ k) ∧ Aside0 (Kd.R (Kd.int .i64) 3 w' w.heap.size (fun k_ => some k_ ≠ (v118 : Value).ownBlock) v115 t114) ∧ Aside0 (Kd.R (Kd.int .i64) 3 w' w.heap.size (fun k_ => some k_ ≠ (v115 : Value).ownBlock) v118 t117) ∧ Aside0 (Below w.heap.size w w'))
 case atStart => exact ⟨(0), (by first | rfl | (simp; done) | (simp [*]; done)), H', ⟨Nat.le_refl _⟩, ⟨by (with_reducible repeat (first | apply Kd.R_alloc | apply Kd.R_drewN | apply Kd.R_drew)); exact Kd.R_mono HO116.out (fun _ hk => hk.2)⟩, ⟨by (with_reducible repeat (first | apply Kd.R_alloc | apply Kd.R_drewN | apply Kd.R_drew)); exact Kd.R_mono HO119.out (fun _ hk => hk.2)⟩, ⟨by repeat (first | (with_reducible first | exact HB.out | apply below_alloc | apply pw_below_drewN | apply below_drew1) | exact HB.out)⟩⟩
 case round =>
  clear H'
  try clear c1
  try clear p2
  obtain ⟨x9_1, rfl, HA, HK1, HO_7, HO_8, HB⟩ := hrel
  cases gk with
  | zero => exact absurd HA.out (by simp [millstreamref07_Meet.l0])
  | succ k1 =>
   have H := HA.out
   clear HA
   simp only [millstreamref07_Meet.l0] at H
   by_cases c8 : x9_1 < (t114.length : Int)
   ·rw [if_pos c8] at H
    have c8b0 : decide (x9_1 < (t114.length : Int)) = true := decide_eq_true c8
    clear c8
    by_cases c9 : 0 ≤ x9_1
    ·rw [if_pos c9] at H
     have c9b0 : decide (0 ≤ x9_1) = true := decide_eq_true c9
     clear c9
     by_cases c10 : x9_1 < (t117.length : Int)
     ·rw [if_pos c10] at H
      have c10b0 : decide (x9_1 < (t117.length : Int)) = true := decide_eq_true c10
      clear c10
      by_cases c11 : (rd t114 x9_1) = (rd t117 x9_1)
      ·rw [if_pos c11] at H
       have c11b0 : ((rd t114 x9_1) == (rd t117 x9_1)) = true := beq_iff_eq.mpr c11
       have c11b1 : ((rd t114 x9_1) != (rd t117 x9_1)) = false := bne_eq_false_iff_eq.mpr c11
       clear c11
       obtain rfl := Option.some.inj H
       obtain ⟨Ao12, co12, eo12⟩ := Kd.R_slice HO_7.out
       subst eo12
       have p120 : 0 ≤ (x9_1 : Int) := of_decide_eq_true (by first | (with_reducible assumption) | assumption)
       have q120 : x9_1 < (t114.length : Int) := of_decide_eq_true (by first | (with_reducible assumption) | assumption)
       obtain ⟨ad120, e120, hx120_0⟩ := Kd.at_int (Kd.R_reads' HO_7.out).2.2 x9_1 p120 q120
       cases e120
       replace p120 := eq_true p120
       replace q120 := eq_true q120
       obtain ⟨Ao13, co13, eo13⟩ := Kd.R_slice HO_8.out
       subst eo13
       have p121 : 0 ≤ (x9_1 : Int) := of_decide_eq_true (by first | (with_reducible assumption) | assumption)
       have q121 : x9_1 < (t117.length : Int) := of_decide_eq_true (by first | (with_reducible assumption) | assumption)
       obtain ⟨ad121, e121, hx121_0⟩ := Kd.at_int (Kd.R_reads' HO_8.out).2.2 x9_1 p121 q121
       cases e121
       replace p121 := eq_true p121
       replace q121 := eq_true q121
       have p122 : 0 ≤ (x9_1 : Int) := of_decide_eq_true (by first | (with_reducible assumption) | assumption)
       have q122 : x9_1 < (t114.length : Int) := of_decide_eq_true (by first | (with_reducible assumption) | assumption)
       obtain ⟨ad122, e122, hx122_0⟩ := Kd.at_int (Kd.R_reads' HO_7.out).2.2 x9_1 p122 q122
       obtain rfl : ad120 = ad122 := (by injection e122)
       replace p122 := eq_true p122
       replace q122 := eq_true q122
       go_wp2
       repeat (go_quiet (fail); try go_wp2)
       go_ret
       exact ⟨by first | rfl | (simp [errW_none, errW_some] <;> rfl) | (simp [*, errW_none, errW_some] <;> rfl), by repeat (first | (with_reducible first | exact HB.out | apply below_alloc | apply pw_below_drewN | apply below_drew1) | exact HB.out)⟩
      ·rw [if_neg c11] at H
       have c11b0 : ((rd t114 x9_1) == (rd t117 x9_1)) = false := beq_eq_false_iff_ne.mpr c11
       have c11b1 : ((rd t114 x9_1) != (rd t117 x9_1)) = true := bne_iff_ne.mpr c11
       have H' := Aside0.mk H
       clear H
       obtain ⟨Ao14, co14, eo14⟩ := Kd.R_slice HO_7.out
       subst eo14
       have p120 : 0 ≤ (x9_1 : Int) := of_decide_eq_true (by first | (with_reducible assumption) | assumption)
       have q120 : x9_1 < (t114.length : Int) := of_decide_eq_true (by first | (with_reducible assumption) | assumption)
       obtain ⟨ad120, e120, hx120_0⟩ := Kd.at_int (Kd.R_reads' HO_7.out).2.2 x9_1 p120 q120
       cases e120
       replace p120 := eq_true p120
       replace q120 := eq_true q120
       obtain ⟨Ao15, co15, eo15⟩ := Kd.R_slice HO_8.out
       subst eo15
       have p121 : 0 ≤ (x9_1 : Int) := of_decide_eq_true (by first | (with_reducible assumption) | assumption)
       have q121 : x9_1 < (t117.length : Int) := of_decide_eq_true (by first | (with_reducible assumption) | assumption)
       obtain ⟨ad121, e121, hx121_0⟩ := Kd.at_int (Kd.R_reads' HO_8.out).2.2 x9_1 p121 q121
       cases e121
       replace p121 := eq_true p121
       replace q121 := eq_true q121
       go_wp2
       repeat (go_quiet (fail); try go_wp2)
       go_roundg k1
       case measure => have := HK1.out; omega
       case rel => exact ⟨(wrap64 (x9_1 + 1)), (by first | rfl | (simp; done) | (simp [*]; done)), H', ⟨by have := HK1.out; omega⟩, ⟨by (with_reducible repeat (first | apply Kd.R_alloc | apply Kd.R_drewN | apply Kd.R_drew)); exact HO_7.out⟩, ⟨by (with_reducible repeat (first | apply Kd.R_alloc | apply Kd.R_drewN | apply Kd.R_drew)); exact HO_8.out⟩, ⟨by repeat (first | (with_reducible first | exact HB.out | apply below_alloc | apply pw_below_drewN | apply below_drew1) | exact HB.out)⟩⟩
     ·rw [if_neg c10] at H
      exact absurd H (by simp)
    ·rw [if_neg c9] at H
     exact absurd H (by simp)
   ·rw [if_neg c8] at H
    have c8b0 : decide (x9_1 < (t114.length : Int)) = false := decide_eq_false c8
    clear c8
    obtain rfl := Option.some.inj H
    obtain ⟨Ao16, co16, eo16⟩ := Kd.R_slice HO_7.out
    subst eo16
    go_wp2
    repeat (go_quiet (fail); try go_wp2)
    go_ret
    exact ⟨by first | rfl | (simp [errW_none, errW_some] <;> rfl) | (simp [*, errW_none, errW_some] <;> rfl), by repeat (first | (with_reducible first | exact HB.out | apply below_alloc | apply pw_below_drewN | apply below_drew1) | exact HB.out)⟩

/-! ### millstreamlaw07_shown: function 20 -/
def millstreamlaw07_shown.g (k : Nat)  : Option (Bool) := (shape_Path.f 3 5).bind fun t123 => (if (t123.length : Int) = 3 then (if 0 < (t123.length : Int) then (if (rd t123 0) = 6 then (if 1 < (t123.length : Int) then (if (rd t123 1) = 3 then (if 2 < (t123.length : Int) then (if (rd t123 2) = 1 then ((shape_Meet.f 3 5 6).bind fun t129 => (if t129 = 3 then ((shape_Level.f k 6).bind fun t130 => (if t130 = 2 then ((shape_Leaf.f 0 5).bind fun t131 => (some (t131 == 0))) else (some false))) else (some false))) else (some false)) else (none)) else (some false)) else (none)) else (some false)) else (none)) else (some false))
theorem millstreamlaw07_shown.gmono : ∀ k, LeO (millstreamlaw07_shown.g k ) (millstreamlaw07_shown.g (k + 1) ) := by
 intro  k
 unfold millstreamlaw07_shown.g
 repeat' first
   | (with_reducible exact shape_Level.mono _ _)
   | (with_reducible exact LeO.refl _)
   | (with_reducible exact LeO.none _)
   | (with_reducible refine LeO.ite ?_ ?_)
   | (with_reducible refine LeO.bind ?_ (fun _ => ?_))
   | exact shape_Level.mono _ _
   | exact LeO.none _
   | refine LeO.ite ?_ ?_
   | refine LeO.bind ?_ (fun _ => ?_)
set_option maxHeartbeats 60000000 in
set_option maxRecDepth 100000 in
theorem millstreamlaw07_shown.gcalls (k : Nat)  (r : Bool) (w : World) (h : millstreamlaw07_shown.g k  = some r) (hr_ : Aside0 (r = true)) :
  Calls Try.prog 20 #[] w fun e w' => e = .returned (.bool r) ∧ Below w.heap.size w w' := by
 have HB := Aside0.mk (Below.refl w.heap.size w)
 have H : ((shape_Path.f 3 5).bind fun t123 => (if (t123.length : Int) = 3 then (if 0 < (t123.length : Int) then (if (rd t123 0) = 6 then (if 1 < (t123.length : Int) then (if (rd t123 1) = 3 then (if 2 < (t123.length : Int) then (if (rd t123 2) = 1 then ((shape_Meet.f 3 5 6).bind fun t129 => (if t129 = 3 then ((shape_Level.f k 6).bind fun t130 => (if t130 = 2 then ((shape_Leaf.f 0 5).bind fun t131 => (some (t131 == 0))) else (some false))) else (some false))) else (some false)) else (none)) else (some false)) else (none)) else (some false)) else (none)) else (some false))) = some r := h
 clear h
 replace H := Option.bind_eq_some_iff.mp H
 obtain ⟨t123, A10, H⟩ := H
 replace H : (if (t123.length : Int) = 3 then (if 0 < (t123.length : Int) then (if (rd t123 0) = 6 then (if 1 < (t123.length : Int) then (if (rd t123 1) = 3 then (if 2 < (t123.length : Int) then (if (rd t123 2) = 1 then ((shape_Meet.f 3 5 6).bind fun t129 => (if t129 = 3 then ((shape_Level.f k 6).bind fun t130 => (if t130 = 2 then ((shape_Leaf.f 0 5).bind fun t131 => (some (t131 == 0))) else (some false))) else (some false))) else (some false)) else (none)) else (some false)) else (none)) else (some false)) else (none)) else (some false)) = some r := H
 have A1 := Aside0.mk A10
 clear A10
 by_cases c2 : (t123.length : Int) = 3
 ·rw [if_pos c2] at H
  have c2b0 : ((t123.length : Int) == 3) = true := beq_iff_eq.mpr c2
  have c2b1 : ((t123.length : Int) != 3) = false := bne_eq_false_iff_eq.mpr c2
  clear c2
  by_cases c3 : 0 < (t123.length : Int)
  ·rw [if_pos c3] at H
   have c3b0 : decide (0 < (t123.length : Int)) = true := decide_eq_true c3
   have c3b1 : decide (0 < t123.length) = true := decide_eq_true (by omega)
   clear c3
   by_cases c4 : (rd t123 0) = 6
   ·rw [if_pos c4] at H
    have c4b0 : ((rd t123 0) == 6) = true := beq_iff_eq.mpr c4
    have c4b1 : ((rd t123 0) != 6) = false := bne_eq_false_iff_eq.mpr c4
    clear c4
    by_cases c5 : 1 < (t123.length : Int)
    ·rw [if_pos c5] at H
     have c5b0 : decide (1 < (t123.length : Int)) = true := decide_eq_true c5
     have c5b1 : decide (1 < t123.length) = true := decide_eq_true (by omega)
     clear c5
     by_cases c6 : (rd t123 1) = 3
     ·rw [if_pos c6] at H
      have c6b0 : ((rd t123 1) == 3) = true := beq_iff_eq.mpr c6
      have c6b1 : ((rd t123 1) != 3) = false := bne_eq_false_iff_eq.mpr c6
      clear c6
      by_cases c7 : 2 < (t123.length : Int)
      ·rw [if_pos c7] at H
       have c7b0 : decide (2 < (t123.length : Int)) = true := decide_eq_true c7
       have c7b1 : decide (2 < t123.length) = true := decide_eq_true (by omega)
       clear c7
       by_cases c8 : (rd t123 2) = 1
       ·rw [if_pos c8] at H
        have c8b0 : ((rd t123 2) == 1) = true := beq_iff_eq.mpr c8
        have c8b1 : ((rd t123 2) != 1) = false := bne_eq_false_iff_eq.mpr c8
        clear c8
        replace H := Option.bind_eq_some_iff.mp H
        obtain ⟨t129, A90, H⟩ := H
        replace H : (if t129 = 3 then ((shape_Level.f k 6).bind fun t130 => (if t130 = 2 then ((shape_Leaf.f 0 5).bind fun t131 => (some (t131 == 0))) else (some false))) else (some false)) = some r := H
        have A9 := Aside0.mk A90
        clear A90
        by_cases c10 : t129 = 3
        ·rw [if_pos c10] at H
         have c10b0 : (t129 == 3) = true := beq_iff_eq.mpr c10
         have c10b1 : (t129 != 3) = false := bne_eq_false_iff_eq.mpr c10
         clear c10
         replace H := Option.bind_eq_some_iff.mp H
         obtain ⟨t130, A110, H⟩ := H
         replace H : (if t130 = 2 then ((shape_Leaf.f 0 5).bind fun t131 => (some (t131 == 0))) else (some false)) = some r := H
         have A11 := Aside0.mk A110
         clear A110
         by_cases c12 : t130 = 2
         ·rw [if_pos c12] at H
          have c12b0 : (t130 == 2) = true := beq_iff_eq.mpr c12
          have c12b1 : (t130 != 2) = false := bne_eq_false_iff_eq.mpr c12
          clear c12
          replace H := Option.bind_eq_some_iff.mp H
          obtain ⟨t131, A130, H⟩ := H
          replace H : (some (t131 == 0)) = some r := H
          have A13 := Aside0.mk A130
          clear A130
          clear hr_
          obtain rfl := Option.some.inj H
          go_enter Try.func20, Try.ntmps20
          go_wp2_with (first | ((with_reducible refine gate_callee (f := 16) rfl ?_); refine goesL_ (some 2) rfl rfl Try.func16 (by kernel_rfl) rfl #[.int .i64 3, .int .i64 5] rfl (by (try simp only [List.map_toArray, List.map_cons, List.map_nil]); first | done | rfl | (simp only [List.length_drop, List.length_take]; rfl)) ?_; (with_reducible refine (shape_Path.calls 3 5 t123 _ A1.out).mono ?_); rintro e w14 ⟨v124, rfl, ho0, hb⟩; refine ⟨_, rfl, ?_⟩; have n0_ := Aside0.mk (Kd.R_lower ho0 (below_size (by repeat (first | (with_reducible first | exact HB.out | apply below_alloc | apply pw_below_drewN | apply below_drew1) | exact HB.out)))); have n1_ := Aside0.mk (below_step (by repeat (first | (with_reducible first | exact HB.out | apply below_alloc | apply pw_below_drewN | apply below_drew1) | exact HB.out)) hb); clear HB; have HO125 := n0_; have HB := n1_; clear n0_ n1_; (try clear hb); (try clear hb2); (try clear hk); (try clear hi); (try clear ho0); obtain ⟨Ao15, co15, eo15⟩ := Kd.R_slice HO125.out; subst eo15; have p126 : 0 ≤ (0 : Int) := (by omega); have q126 : 0 < (t123.length : Int) := of_decide_eq_true (by first | (with_reducible assumption) | assumption); obtain ⟨ad126, e126, hx126_0⟩ := Kd.at_int (Kd.R_reads' HO125.out).2.2 0 p126 q126; cases e126; have qi126 : (0 < t123.length) = True := eq_true (by omega); (try rw [show ((0 : Int)).toNat = 0 from rfl] at hx126_0); (try rw [Addr.add_zero'] at hx126_0); replace p126 := eq_true p126; replace q126 := eq_true q126; have p127 : 0 ≤ (1 : Int) := (by omega); have q127 : 1 < (t123.length : Int) := of_decide_eq_true (by first | (with_reducible assumption) | assumption); obtain ⟨ad127, e127, hx127_0⟩ := Kd.at_int (Kd.R_reads' HO125.out).2.2 1 p127 q127; obtain rfl : ad126 = ad127 := (by injection e127); (try simp only [show (1 : Int).toNat = 1 from rfl, Nat.reduceMul, Nat.reduceEqDiff, Go.Addr.add, ↓reduceIte] at hx127_0); have qi127 : (1 < t123.length) = True := eq_true (by omega); (try rw [show ((1 : Int)).toNat = 1 from rfl] at hx127_0); replace p127 := eq_true p127; replace q127 := eq_true q127; have p128 : 0 ≤ (2 : Int) := (by omega); have q128 : 2 < (t123.length : Int) := of_decide_eq_true (by first | (with_reducible assumption) | assumption); obtain ⟨ad128, e128, hx128_0⟩ := Kd.at_int (Kd.R_reads' HO125.out).2.2 2 p128 q128; obtain rfl : ad126 = ad128 := (by injection e128); (try simp only [show (2 : Int).toNat = 2 from rfl, Nat.reduceMul, Nat.reduceEqDiff, Go.Addr.add, ↓reduceIte] at hx128_0); have qi128 : (2 < t123.length) = True := eq_true (by omega); (try rw [show ((2 : Int)).toNat = 2 from rfl] at hx128_0); replace p128 := eq_true p128; replace q128 := eq_true q128) | (go_at_call 18; (with_reducible refine (shape_Meet.calls 3 5 6 t129 _ A9.out).mono ?_); rintro e w16 ⟨rfl, hb⟩; have n0_ := Aside0.mk (Kd.R_below (by (with_reducible repeat (first | apply Kd.R_alloc | apply Kd.R_drewN | apply Kd.R_drew)); exact HO125.out) hb); have n1_ := Aside0.mk (below_step (by repeat (first | (with_reducible first | exact HB.out | apply below_alloc | apply pw_below_drewN | apply below_drew1) | exact HB.out)) hb); clear HO125; clear HB; have HO125 := n0_; have HB := n1_; clear n0_ n1_; (try clear hb); (try clear hb2); (try clear hk); (try clear hi)) | (go_at_call 13; (with_reducible refine (shape_Level.calls k 6 t130 _ A11.out).mono ?_); rintro e w17 ⟨rfl, hb⟩; have n0_ := Aside0.mk (Kd.R_below (by (with_reducible repeat (first | apply Kd.R_alloc | apply Kd.R_drewN | apply Kd.R_drew)); exact HO125.out) hb); have n1_ := Aside0.mk (below_step (by repeat (first | (with_reducible first | exact HB.out | apply below_alloc | apply pw_below_drewN | apply below_drew1) | exact HB.out)) hb); clear HO125; clear HB; have HO125 := n0_; have HB := n1_; clear n0_ n1_; (try clear hb); (try clear hb2); (try clear hk); (try clear hi)) | (go_at_call 9; (with_reducible refine (shape_Leaf.calls 0 5 t131 _ A13.out).mono ?_); rintro e w' ⟨rfl, ⟨nd, rfl⟩⟩))
          go_ret
          exact ⟨by first | rfl | (simp [errW_none, errW_some] <;> rfl) | (simp [*, errW_none, errW_some] <;> rfl), by repeat (first | (with_reducible first | exact HB.out | apply below_alloc | apply pw_below_drewN | apply below_drew1) | exact HB.out)⟩
         ·rw [if_neg c12] at H
          have c12b0 : (t130 == 2) = false := beq_eq_false_iff_ne.mpr c12
          have c12b1 : (t130 != 2) = true := bne_iff_ne.mpr c12
          exact absurd ((Option.some.inj H).trans hr_.out) (by decide)
        ·rw [if_neg c10] at H
         have c10b0 : (t129 == 3) = false := beq_eq_false_iff_ne.mpr c10
         have c10b1 : (t129 != 3) = true := bne_iff_ne.mpr c10
         exact absurd ((Option.some.inj H).trans hr_.out) (by decide)
       ·rw [if_neg c8] at H
        have c8b0 : ((rd t123 2) == 1) = false := beq_eq_false_iff_ne.mpr c8
        have c8b1 : ((rd t123 2) != 1) = true := bne_iff_ne.mpr c8
        exact absurd ((Option.some.inj H).trans hr_.out) (by decide)
      ·rw [if_neg c7] at H
       exact absurd H (by simp)
     ·rw [if_neg c6] at H
      have c6b0 : ((rd t123 1) == 3) = false := beq_eq_false_iff_ne.mpr c6
      have c6b1 : ((rd t123 1) != 3) = true := bne_iff_ne.mpr c6
      exact absurd ((Option.some.inj H).trans hr_.out) (by decide)
    ·rw [if_neg c5] at H
     exact absurd H (by simp)
   ·rw [if_neg c4] at H
    have c4b0 : ((rd t123 0) == 6) = false := beq_eq_false_iff_ne.mpr c4
    have c4b1 : ((rd t123 0) != 6) = true := bne_iff_ne.mpr c4
    exact absurd ((Option.some.inj H).trans hr_.out) (by decide)
  ·rw [if_neg c3] at H
   exact absurd H (by simp)
 ·rw [if_neg c2] at H
  have c2b0 : ((t123.length : Int) == 3) = false := beq_eq_false_iff_ne.mpr c2
  have c2b1 : ((t123.length : Int) != 3) = true := bne_iff_ne.mpr c2
  exact absurd ((Option.some.inj H).trans hr_.out) (by decide)
def millstreamlaw07_shown.f (k : Nat) : Option Bool := if millstreamlaw07_shown.g k = some true then some true else none
theorem millstreamlaw07_shown.mono : ∀ k, LeO (millstreamlaw07_shown.f k) (millstreamlaw07_shown.f (k + 1)) := by
 intro k r h
 unfold millstreamlaw07_shown.f at *
 by_cases hg : millstreamlaw07_shown.g k = some true
 ·rw [if_pos hg] at h
  rw [if_pos (millstreamlaw07_shown.gmono k true hg)]
  exact h
 ·rw [if_neg hg] at h
  cases h
theorem millstreamlaw07_shown.calls (k : Nat) (r : Bool) (w : World) (h : millstreamlaw07_shown.f k = some r) :
  Calls Try.prog 20 #[] w fun e w' => e = .returned (.bool r) ∧ Below w.heap.size w w' := by
 unfold millstreamlaw07_shown.f at h
 by_cases hg : millstreamlaw07_shown.g k = some true
 ·rw [if_pos hg] at h
  obtain rfl := Option.some.inj h
  exact millstreamlaw07_shown.gcalls k true w hg (Aside0.mk rfl)
 ·rw [if_neg hg] at h
  cases h

end Go.Proofs.Ytmlapgclfnlipaa.PA
