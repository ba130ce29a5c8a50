/- What one knows of a turn that may be, and what a step leaves. Conditions: none but those that each law names. -/
import Derived.Test.YtjoebchkchoomaaFacts11
import Derived.Test.YtjoebchkchoomaaU6
set_option linter.unusedVariables false
set_option linter.unusedSimpArgs false
set_option maxRecDepth 10000
namespace Go.Proofs.YtjoebchkchoomaaS
open Go Go.Proofs
theorem or_false4 {a b : Bool} (h : (a || b) = false) : a = false ∧ b = false := by
  cases a <;> cases b <;> simp_all
structure Small (x : S38) : Prop where
  w : x.a14.length ≤ 400
  n : x.a15.length ≤ 16
  b : x.a20.length ≤ 20
  k : x.a21.length ≤ 20
  h : x.a22.length ≤ 20
  t : x.a33.length ≤ 100
  l : x.a35.length ≤ 50
  bx : ∀ i, i < x.a15.length → (pList ((x.a15.getD i []).headD PV.undef)).length ≤ 20
theorem small_of {x : S38} (h : big x = false) : Small x := by
  unfold big at h
  obtain ⟨h0, h⟩ := or_false4 h
  obtain ⟨h1, h⟩ := or_false4 h
  obtain ⟨h2, h⟩ := or_false4 h
  obtain ⟨h3, h⟩ := or_false4 h
  obtain ⟨h4, h⟩ := or_false4 h
  obtain ⟨h5, h⟩ := or_false4 h
  obtain ⟨h6, h7⟩ := or_false4 h
  have g1 := of_decide_eq_false h1
  have g2 := of_decide_eq_false h2
  have g3 := of_decide_eq_false h3
  have g4 := of_decide_eq_false h4
  have g5 := of_decide_eq_false h5
  have g6 := of_decide_eq_false h6
  have g7 := of_decide_eq_false h7
  refine ⟨by omega, by omega, by omega, by omega, by omega, by omega, by omega, fun i hi => ?_⟩
  have hq : (List.range' 0 (min x.a15.length 20)).all (fitsB x) = true := by simpa using h0
  have := (all_range'.1 hq) i (by omega) (by omega)
  unfold fitsB at this
  have : ¬ ((pList ((x.a15.getD i []).headD PV.undef)).length : Int) > 20 := by simpa using this
  omega
structure May (x : S38) : Prop where
  c : OkC (conf x)
  t0 : 0 ≤ x.a12
  t1 : x.a12 < x.a0
  s : (x.a14.length : Int) = sizeOf x.a0 x.a1 x.a3 x.a4 x.a5
  b : (x.a15.length : Int) = x.a0
  i0 : 0 ≤ x.a17
  i1 : x.a17 < x.a1
theorem may_of {x : S38} (h : mayR x = true) : May x := by
  unfold mayR at h
  simp only [Bool.and_eq_true, decide_eq_true_eq, beq_iff_eq] at h
  obtain ⟨h0, h1, h2, h3, h4, h5, h6⟩ := h
  exact ⟨f26_ok (x := conf x) h0, h1, h2, h3, h4, h5, h6⟩
theorem nodes_le {d : Int} (h : d ≤ 4) : 0 ≤ nodesR d ∧ nodesR d ≤ 15 := by
  unfold nodesR
  repeat' split
  all_goals omega
theorem block_val {d l w : Int} (hd : d ≤ 4) (h1 : 0 ≤ l) (h2 : l ≤ 3) (h3 : 1 ≤ w) (h4 : w ≤ 8) : blockOf d l w = 1 + nodesR d + l * w ∧ 1 ≤ blockOf d l w ∧ blockOf d l w ≤ 40 := by
  obtain ⟨n0, n1⟩ := nodes_le hd
  have m : 0 ≤ l * w ∧ l * w ≤ 24 := by
    have : l = 0 ∨ l = 1 ∨ l = 2 ∨ l = 3 := by omega
    rcases this with rfl | rfl | rfl | rfl <;> omega
  unfold blockOf
  rw [wrap_small (n := l * w) (by omega) (by omega), wrap_small (n := 1 + nodesR d) (by omega) (by omega), wrap_small (by omega) (by omega)]
  omega
theorem good_of {x : S38} (hs : Small x) (hm : May x) : Good x := ⟨hm.c.d1, hm.c.d2, by have := hs.w; omega, by have := hs.b; omega⟩
theorem place_val {x : S38} (h : May x) {t : Int} (t0 : 0 ≤ t) (t1 : t < x.a0) : 0 ≤ lineT x t ∧ resT x t = lineT x t + 1 ∧ lineT x t + 1 < (x.a14.length : Int) ∧ lineT x t = x.a1 * blockOf x.a3 x.a4 x.a5 + 2 * t := by
  obtain ⟨t1', t2, i1, i2, d1, d2, l1, l2, w1, w2⟩ := h.c
  have t1' : 1 ≤ x.a0 := t1'
  have t2 : x.a0 ≤ 16 := t2
  have i1 : 1 ≤ x.a1 := i1
  have i2 : x.a1 ≤ 4 := i2
  obtain ⟨_, b1, b2⟩ := block_val (d := x.a3) (l := x.a4) (w := x.a5) d2 l1 l2 w1 w2
  have hs := h.s
  unfold sizeOf at hs
  unfold lineT resT lineOf resultOf
  rw [decide_eq_false (show ¬ t < 0 by omega), decide_eq_false (show ¬ t ≥ x.a0 by omega)]
  simp only [cond_false]
  generalize blockOf x.a3 x.a4 x.a5 = B at b1 b2 hs ⊢
  have n1 : x.a1 = 1 ∨ x.a1 = 2 ∨ x.a1 = 3 ∨ x.a1 = 4 := by omega
  have m : 0 ≤ x.a1 * B ∧ x.a1 * B ≤ 160 := by
    rcases n1 with e | e | e | e <;> rw [e] <;> omega
  rw [wrap_small (n := x.a1 * B) (by omega) (by omega), wrap_small (n := 2 * x.a0) (by omega) (by omega), wrap_small (by omega) (by omega)] at hs
  rw [wrap_small (n := x.a1 * B) (by omega) (by omega), wrap_small (n := 2 * t) (by omega) (by omega), wrap_small (n := x.a1 * B + 2 * t) (by omega) (by omega), wrap_small (by omega) (by omega)]
  omega
/-- What settling leaves. -/
theorem settle_eqs (x : S38) : (settleR x).a14 = x.a14 ∧ (settleR x).a15 = x.a15 ∧ (settleR x).a35 = x.a35 ∧ (settleR x).a30 = x.a30 ∧ (settleR x).a36 = (x.a36 || !(decide (0 ≤ x.a25) && decide (x.a25 < (x.a21.length : Int)))) := by
  unfold settleR
  cases decide (0 ≤ x.a25) && decide (x.a25 < (x.a21.length : Int)) with
  | true => exact ⟨rfl, rfl, rfl, rfl, by simp⟩
  | false => exact ⟨rfl, rfl, rfl, rfl, by simp⟩
theorem set_at {ws : List (List PV)} {i v : Int} (h0 : 0 ≤ i) (h1 : i < (ws.length : Int)) : wordAt (ws.set i.toNat [PV.int .i64 v]) i = v := by
  unfold wordAt
  have : i.toNat < ws.length := by omega
  simp [List.getD_eq_getElem?_getD, this, pInt]
theorem wfs_nth : ∀ {l : List PV} {i : Nat} {p : PV}, Wfs l → l[i]? = some p → Wf p
  | _ :: _, 0, _, h, e => by
    simp only [Wfs] at h
    cases e
    exact h.1
  | _ :: _, i + 1, _, h, e => by
    simp only [Wfs] at h
    exact wfs_nth h.2 (by simpa using e)
  | [], _, _, _, e => by cases e
theorem in64_of {n : Int} (h : Wf (.int .i64 n)) : In64 n := by
  obtain ⟨a, b⟩ := wf_i64 h
  exact ⟨a, b⟩
/-- The numbers of a turn that came in. -/
structure Nums (x : S38) : Prop where
  lo : In64 x.a9
  hi : In64 x.a10
  es : OkEs x.a20
  ws : ∀ i, 0 ≤ i → i < (x.a14.length : Int) → In64 (wordAt x.a14 i)
  x : In64 x.a30
theorem nums_of {x : S38} (h : Wf (S38v x)) (hm : Meant Try.prog [S38v x]) : Nums x := by
  have hw : Wfs (S38v x).cells := by
    unfold S38v at h ⊢
    simp only [Wf] at h
    exact h
  have hc := hm.cells 0 (cs := (S38v x).cells) rfl
  have c20 := hc.list 20 (ks := [.int .i64, .int .i64, .int .i64]) (t := 78) (xs := x.a20) rfl (by kernel_rfl)
  have c14 := hc.list 14 (ks := [.int .i64]) (t := 3) (xs := x.a14) rfl (by kernel_rfl)
  refine ⟨in64_of (wfs_nth hw (i := 9) rfl), in64_of (wfs_nth hw (i := 10) rfl), okEs_of (wfs_nth hw (i := 20) (p := .list 78 x.a20) rfl) c20, fun i h0 h1 => ?_, in64_of (wfs_nth hw (i := 30) rfl)⟩
  have hl : Wf (.list 3 x.a14) := wfs_nth hw (i := 14) rfl
  simp only [Wf] at hl
  have hi : i.toNat < x.a14.length := by omega
  have hm := List.getElem_mem hi
  have hwe := hl.2.mem _ hm
  have hce := c14 _ hm
  have e : x.a14.getD i.toNat [] = x.a14[i.toNat] := by simp [List.getD_eq_getElem?_getD, hi]
  unfold wordAt
  rw [e]
  match x.a14[i.toNat], hce, hwe with
  | [a], hce, hwe =>
    obtain ⟨⟨z, rfl⟩, _⟩ := hce
    simp only [Wfs] at hwe
    exact in64_of hwe.1
theorem in_dec {i : Int} {n : Nat} (h0 : 0 ≤ i) (h1 : i < (n : Int)) : (decide (0 ≤ i) && decide (i < (n : Int))) = true := by
  rw [decide_eq_true h0, decide_eq_true h1]
  rfl
end Go.Proofs.YtjoebchkchoomaaS
