/- Decode whole. Conditions: none. -/
import Derived.Test.YtkdbccloniaogaaU5
set_option linter.unusedVariables false
set_option linter.unusedSimpArgs false
set_option maxRecDepth 10000
namespace Go.Proofs.YtkdbccloniaogaaS
open Go Go.Proofs
/-- What is handed back behind the loop. -/
noncomputable def back18 (x0 : ByteArray) : f18L0e → Option f18o
  | .e0 => Tr.run (.ret (.r0 ([]) (IntKind.i64.wrap ((↑x0.size : Int) - (↑x0.size : Int))) ((90 : Int))))
  | .e1 => Tr.run (.ret (.r0 ([]) (IntKind.i64.wrap ((↑x0.size : Int) - (↑x0.size : Int))) ((94 : Int))))
  | .e2 => Tr.run (.ret (.r0 ([]) ((0 : Int)) ((0 : Int))))
  | .e3 _ w => Tr.run (.ret (.r0 ([]) (IntKind.i64.wrap ((↑x0.size : Int) - (↑w.size : Int))) ((90 : Int))))
  | .e4 _ w => Tr.run (.ret (.r0 ([]) (IntKind.i64.wrap ((↑x0.size : Int) - (↑w.size : Int))) ((94 : Int))))
  | .e5 w _ => Tr.run (.ret (.r0 (w) ((0 : Int)) ((0 : Int))))
  | .e6 _ w => Tr.run (.ret (.r0 ([]) (IntKind.i64.wrap ((↑x0.size : Int) - (↑w.size : Int))) ((90 : Int))))
  | .e7 _ w => Tr.run (.ret (.r0 ([]) (IntKind.i64.wrap ((↑x0.size : Int) - (↑w.size : Int))) ((94 : Int))))
  | .e8 w _ => Tr.run (.ret (.r0 (w) ((0 : Int)) ((0 : Int))))
theorem f18_eq (N : Nat) (x0 : ByteArray) : f18 N x0 = (loopN (f18L0r N x0) N .s0).bind (back18 x0) := by
  unfold f18
  congr 1
def out18 (r : List (List PV) × Int × Int) : f18o := ⟨r.1, r.2.1, r.2.2⟩
theorem decR_stop {n0 : Int} {f : Nat} {out : List (List PV)} {s : ByteArray} (h0 : 0 < s.size) (k : hd s < 1 ∨ 3 < hd s) : decR n0 (f + 1) out s = ([], n0 - (s.size : Int), 90) := by
  have e1 : (s.size == 0) = false := by
    have : s.size ≠ 0 := by omega
    simpa using this
  have e2 : (decide (hd s < 1) || decide (hd s > 3)) = true := by
    rcases k with k | k
    · rw [decide_eq_true k]; rfl
    · rw [decide_eq_true (show hd s > 3 from k), Bool.or_true]
  simp only [decR]
  rw [e1, e2]
  rfl
theorem decR_short {n0 : Int} {f : Nat} {out : List (List PV)} {s : ByteArray} (h0 : 0 < s.size) (k1 : 1 ≤ hd s) (k3 : hd s ≤ 3) (hz : s.size < sizeK (hd s)) : decR n0 (f + 1) out s = ([], n0 - (s.size : Int), 94) := by
  have e1 : (s.size == 0) = false := by
    have : s.size ≠ 0 := by omega
    simpa using this
  have e2 : (decide (hd s < 1) || decide (hd s > 3)) = false := by
    rw [decide_eq_false (show ¬ hd s < 1 by omega), decide_eq_false (show ¬ hd s > 3 by omega)]
    rfl
  simp only [decR]
  rw [e1, e2, decide_eq_true hz]
  rfl
theorem decR_next {n0 : Int} {f : Nat} {out : List (List PV)} {s : ByteArray} (h0 : 0 < s.size) (k1 : 1 ≤ hd s) (k3 : hd s ≤ 3) (hz : sizeK (hd s) ≤ s.size) : decR n0 (f + 1) out s = decR n0 f (out ++ [(dec1 s).1]) (dec1 s).2 := by
  have e1 : (s.size == 0) = false := by
    have : s.size ≠ 0 := by omega
    simpa using this
  have e2 : (decide (hd s < 1) || decide (hd s > 3)) = false := by
    rw [decide_eq_false (show ¬ hd s < 1 by omega), decide_eq_false (show ¬ hd s > 3 by omega)]
    rfl
  have e3 : decide (s.size < sizeK (hd s)) = false := decide_eq_false (by omega)
  simp only [decR]
  rw [e1, e2, e3]
  rfl
theorem decR_end {n0 : Int} {f : Nat} {out : List (List PV)} {s : ByteArray} (h0 : s.size = 0) : decR n0 (f + 1) out s = (out, 0, 0) := by
  have e1 : (s.size == 0) = true := by simpa using h0
  simp only [decR]
  rw [e1]
  rfl
theorem sizeK_pos (k : Int) : 1 ≤ sizeK k := by
  unfold sizeK
  cases (k == 1) <;> cases (k == 2) <;> decide
theorem sub_wrap {a b : Nat} (ha : a ≤ 900000) (hb : b ≤ a) : IntKind.i64.wrap ((a : Int) - (b : Int)) = (a : Int) - (b : Int) := wrap_small (by omega) (by omega)
theorem dec_loop2 {N : Nat} {x0 : ByteArray} (hN : 9 ≤ N) (hx : x0.size ≤ 900000) : ∀ (f : Nat) (out : List (List PV)) (s : ByteArray), s.size < f → s.size ≤ x0.size → out.length + s.size ≤ 900000 → (loopN (f18L0r N x0) f (.s2 out s)).bind (back18 x0) = some (out18 (decR x0.size f out s))
  | 0, out, s, h, _, _ => by omega
  | f + 1, out, s, h, hs, ho => by
    rcases Nat.eq_zero_or_pos s.size with h0 | h0
    · rw [loopN_end (stop2a h0), decR_end h0]
      rfl
    · by_cases k : hd s < 1 ∨ 3 < hd s
      · rw [loopN_end (stop2b h0 k), decR_stop h0 k]
        show some (f18o.r0 [] (IntKind.i64.wrap ((x0.size : Int) - (s.size : Int))) 90) = _
        rw [sub_wrap hx hs]
        rfl
      · have k1 : 1 ≤ hd s := by omega
        have k3 : hd s ≤ 3 := by omega
        rcases Nat.lt_or_ge s.size (sizeK (hd s)) with hz | hz
        · rw [loopN_end (stop2c h0 k1 k3 hz), decR_short h0 k1 k3 hz]
          show some (f18o.r0 [] (IntKind.i64.wrap ((x0.size : Int) - (s.size : Int))) 94) = _
          rw [sub_wrap hx hs]
          rfl
        · have hdz := dec1_size k1 k3
          have hp := sizeK_pos (hd s)
          rw [loopN_next (rnd2 hN h0 k1 k3 hz (by omega)), decR_next h0 k1 k3 hz]
          exact dec_loop2 hN hx f _ _ (by omega) (by omega) (by simp only [List.length_append, List.length_cons, List.length_nil]; omega)
theorem dec_loop1 {N : Nat} {x0 : ByteArray} (hN : 9 ≤ N) (hx : x0.size ≤ 900000) (f : Nat) (out : List (List PV)) (s : ByteArray) (h : s.size < f) (hs : s.size ≤ x0.size) (ho : out.length + s.size ≤ 900000) : (loopN (f18L0r N x0) f (.s1 out s)).bind (back18 x0) = some (out18 (decR x0.size f out s)) := by
  obtain ⟨f, rfl⟩ : ∃ g, f = g + 1 := ⟨f - 1, by omega⟩
  rcases Nat.eq_zero_or_pos s.size with h0 | h0
  · rw [loopN_end (stop1a h0), decR_end h0]
    rfl
  · by_cases k : hd s < 1 ∨ 3 < hd s
    · rw [loopN_end (stop1b h0 k), decR_stop h0 k]
      show some (f18o.r0 [] (IntKind.i64.wrap ((x0.size : Int) - (s.size : Int))) 90) = _
      rw [sub_wrap hx hs]
      rfl
    · have k1 : 1 ≤ hd s := by omega
      have k3 : hd s ≤ 3 := by omega
      rcases Nat.lt_or_ge s.size (sizeK (hd s)) with hz | hz
      · rw [loopN_end (stop1c h0 k1 k3 hz), decR_short h0 k1 k3 hz]
        show some (f18o.r0 [] (IntKind.i64.wrap ((x0.size : Int) - (s.size : Int))) 94) = _
        rw [sub_wrap hx hs]
        rfl
      · have hdz := dec1_size k1 k3
        have hp := sizeK_pos (hd s)
        rw [loopN_next (rnd1 hN h0 k1 k3 hz (by omega)), decR_next h0 k1 k3 hz]
        exact dec_loop2 hN hx f _ _ (by omega) (by omega) (by simp only [List.length_append, List.length_cons, List.length_nil]; omega)
theorem dec_loop0 {N : Nat} {s : ByteArray} (hN : 9 ≤ N) (hx : s.size ≤ 900000) (f : Nat) (h : s.size < f) : (loopN (f18L0r N s) f .s0).bind (back18 s) = some (out18 (decR s.size f [] s)) := by
  obtain ⟨f, rfl⟩ : ∃ g, f = g + 1 := ⟨f - 1, by omega⟩
  rcases Nat.eq_zero_or_pos s.size with h0 | h0
  · rw [loopN_end (stop0a (x0 := s) (out := []) h0), decR_end h0]
    rfl
  · by_cases k : hd s < 1 ∨ 3 < hd s
    · rw [loopN_end (stop0b (x0 := s) (out := []) h0 k), decR_stop h0 k]
      show some (f18o.r0 [] (IntKind.i64.wrap ((s.size : Int) - (s.size : Int))) 90) = _
      rw [sub_wrap hx (Nat.le_refl _)]
      rfl
    · have k1 : 1 ≤ hd s := by omega
      have k3 : hd s ≤ 3 := by omega
      rcases Nat.lt_or_ge s.size (sizeK (hd s)) with hz | hz
      · rw [loopN_end (stop0c (x0 := s) (out := []) h0 k1 k3 hz), decR_short h0 k1 k3 hz]
        show some (f18o.r0 [] (IntKind.i64.wrap ((s.size : Int) - (s.size : Int))) 94) = _
        rw [sub_wrap hx (Nat.le_refl _)]
        rfl
      · have hdz := dec1_size k1 k3
        have hp := sizeK_pos (hd s)
        rw [loopN_next (rnd0 (x0 := s) (out := []) hN h0 k1 k3 hz), decR_next h0 k1 k3 hz]
        exact dec_loop1 hN hx f _ _ (by omega) (by omega) (by simp only [List.length_cons, List.length_nil]; omega)
theorem f18_val {s : ByteArray} (hx : s.size ≤ 900000) : f18 (s.size + 9) s = some (out18 (decR s.size (s.size + 9) [] s)) := by
  rw [f18_eq]
  exact dec_loop0 (by omega) hx _ (by omega)
def dec18 (s : ByteArray) : List (List PV) × Int × Int := decR s.size (s.size + 9) [] s
noncomputable def f18P : Ora := ⟨fun ps => okPs [(false, [.str])] ps && decide ((pStr (ps.headD .undef)).size ≤ 900000), fun ps => .pv (.tup [.list 38 (dec18 (pStr (ps.headD .undef))).1, .int .i64 (dec18 (pStr (ps.headD .undef))).2.1, .int .i64 (dec18 (pStr (ps.headD .undef))).2.2])⟩
theorem f18P_spec : Spec Try.prog 18 f18P := spec_fit 100 f18rs [(false, [.str])] (fun ps => decide ((pStr (ps.headD .undef)).size ≤ 900000)) _ mixed fun ps hm hs hp => by
  have hc : canPs [(false, [.str])] ps = [PV.str (pStr (ps.headD PV.undef))] := by kernel_rfl
  refine ⟨E1t ((pStr (ps.headD .undef)).size + 9), _, rfl, E1t_ok _, ?_, .inl rfl⟩
  rw [hc, f18_run, f18_val (of_decide_eq_true hp)]
  rfl
end Go.Proofs.YtkdbccloniaogaaS
