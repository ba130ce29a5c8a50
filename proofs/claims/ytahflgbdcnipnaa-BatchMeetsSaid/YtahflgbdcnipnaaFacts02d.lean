/- What batches of ops that may be swapped come to. Conditions: none but those that each law names. -/
import Derived.Test.YtahflgbdcnipnaaFacts02b
set_option linter.unusedVariables false
set_option linter.unusedSimpArgs false
set_option maxRecDepth 10000
namespace Go.Proofs.YtahflgbdcnipnaaS
open Go Go.Proofs
theorem grown {σ τ β : Type} {stp : σ → Option (σ ⊕ τ)} (s0 s1 : σ) (s2 : Int → List β → σ) (e0 e1 : τ) (e2 : List β → τ) (el : Nat → β) (n : Nat) (hn : n ≤ most)
    (h0 : n = 0 → stp s0 = some (.inr e0)) (h0' : 0 < n → stp s0 = some (.inl s1)) (h1 : n = 1 → stp s1 = some (.inr e1)) (h1' : 1 < n → stp s1 = some (.inl (s2 ((2 : Nat) : Int) [el 0, el 1])))
    (h2 : ∀ i acc, i < n → acc.length + 1 ≤ most → stp (s2 ((i : Nat) : Int) acc) = some (.inl (s2 ((i + 1 : Nat) : Int) (acc ++ [el i])))) (h3 : ∀ acc, stp (s2 ((n : Nat) : Int) acc) = some (.inr (e2 acc))) :
    (n = 0 ∧ loopN stp (n + 1) s0 = some e0) ∨ (n = 1 ∧ loopN stp (n + 1) s0 = some e1) ∨ (1 < n ∧ loopN stp (n + 1) s0 = some (e2 ((List.range' 0 n).map el))) := by
  match n, hn, h0, h0', h1, h1', h2, h3 with
  | 0, hn, h0, h0', h1, h1', h2, h3 => exact .inl ⟨rfl, loopN_end (h0 rfl)⟩
  | 1, hn, h0, h0', h1, h1', h2, h3 => exact .inr (.inl ⟨rfl, by rw [loopN_next (h0' (by omega)), loopN_end (h1 rfl)]⟩)
  | n + 2, hn, h0, h0', h1, h1', h2, h3 =>
    refine .inr (.inr ⟨by omega, ?_⟩)
    rw [loopN_next (h0' (by omega)), loopN_next (h1' (by omega)), loop_copy (stp := stp) (fun i acc => s2 ((i : Nat) : Int) acc) e2 el (n + 2) h2 h3 n 2 [el 0, el 1] (by omega) (by simp; omega)]
    rfl
noncomputable def one (e : List PV) (x lo hi : Int) : Int := (ap (entOf e).f1.f0 (entOf e).f1.f1 x lo hi).y1
theorem allOf_nil (x lo hi : Int) : allOf [] x lo hi = x := by
  have h : (some [] : Option (List (Int × Int))) = some (walkE [] x lo hi) := walkE_eq [] x lo hi
  unfold allOf
  rw [← Option.some.inj h]
  rfl
theorem allOf_cons (e : List PV) (r : List (List PV)) (x lo hi : Int) : allOf (e :: r) x lo hi = allOf r (one e x lo hi) lo hi := by
  have h := walkE_eq (e :: r) x lo hi
  obtain ⟨q, qs, h1, h2, h3⟩ := steps_cons (show steps 0 lo hi (entOf e :: r.map entOf) x = _ from h)
  have hq : q.1 = one e x lo hi := by
    have := Option.some.inj h1
    rw [← this]
    rfl
  rw [hq] at h2
  rw [walkE_eq r (one e x lo hi) lo hi] at h2
  have := Option.some.inj h2
  unfold allOf
  rw [h3, lb_cons, ← this]
  show lb q.1 _ = _
  rw [hq]
theorem allOf_map {β : Type} (el : β → List PV) (op : Int → β → Int) (lo hi : Int) : ∀ (l : List β), (∀ b, b ∈ l → ∀ x, one (el b) x lo hi = op x b) → ∀ x, allOf (l.map el) x lo hi = l.foldl op x
  | [], _, x => allOf_nil x lo hi
  | b :: l, h, x => by
    rw [List.map_cons, allOf_cons, h b (by simp), List.foldl_cons]
    exact allOf_map el op lo hi l (fun c hc => h c (by simp [hc])) _
theorem foldl_in {β : Type} {op : Int → β → Int} (hc : ∀ x u w, op (op x u) w = op (op x w) u) : ∀ (l : List β) (x : Int) (u : β), l.foldl op (op x u) = op (l.foldl op x) u
  | [], _, _ => rfl
  | b :: l, x, u => by
    rw [List.foldl_cons, List.foldl_cons, hc, foldl_in hc l]
theorem foldl_rev {β : Type} {op : Int → β → Int} (hc : ∀ x u w, op (op x u) w = op (op x w) u) : ∀ (l : List β) (x : Int), l.reverse.foldl op x = l.foldl op x
  | [], _ => rfl
  | b :: l, x => by
    rw [List.reverse_cons, List.foldl_append, foldl_rev hc l]
    exact (foldl_in hc l x b).symm
theorem range_rev (n : Nat) : (List.range' 0 n).map (fun i => n - 1 - i) = (List.range' 0 n).reverse := by
  apply List.ext_getElem
  · simp
  · intro i h1 h2
    have : i < n := by simpa using h2
    rw [List.getElem_map, List.getElem_range', List.getElem_reverse, List.getElem_range']
    simp only [List.length_range']
    omega
theorem wrap_in (x v : Int) : IntKind.i64.wrap (IntKind.i64.wrap x + v) = IntKind.i64.wrap (x + v) := by
  simp only [IntKind.wrap, IntKind.signed, IntKind.bits]
  simp
  omega
theorem wrap_in2 (x v : Int) : IntKind.i64.wrap (x + IntKind.i64.wrap v) = IntKind.i64.wrap (x + v) := by
  rw [Int.add_comm, wrap_in, Int.add_comm]
theorem wrap_wrap (x : Int) : IntKind.i64.wrap (IntKind.i64.wrap x) = IntKind.i64.wrap x := by
  have := wrap_in x 0
  rwa [Int.add_zero, Int.add_zero] at this
theorem ofInt_wrap (n : Int) : BitVec.ofInt 64 (IntKind.i64.wrap n) = BitVec.ofInt 64 n := by
  apply BitVec.eq_of_toInt_eq
  rw [BitVec.toInt_ofInt, BitVec.toInt_ofInt]
  simp only [IntKind.wrap, IntKind.signed, IntKind.bits]
  simp only [Int.bmod]
  simp
  repeat' split
  all_goals omega
theorem ofInt_toNat (b : BitVec 64) : BitVec.ofInt 64 (b.toNat : Int) = b := by
  apply BitVec.eq_of_toNat_eq
  rw [BitVec.toNat_ofInt]
  have := b.isLt
  omega
theorem ap_add (v x : Int) : (ap 1 v x 0 0).y1 = IntKind.i64.wrap (x + v) := by kernel_rfl
theorem ap_sub (v x : Int) : (ap 2 v x 0 0).y1 = IntKind.i64.wrap (x + IntKind.i64.wrap (0 - v)) := by kernel_rfl
theorem ap_max (v x : Int) : (ap 5 v x 0 0).y1 = if v < x then x else v := by kernel_rfl
theorem ap_or (v x : Int) : (ap 3 v x 0 0).y1 = IntKind.i64.wrap ((BitVec.ofInt 64 x ||| BitVec.ofInt 64 v).toNat : Int) := by kernel_rfl
theorem ap_swap {t : Int} (ht : t = 1 ∨ t = 5 ∨ t = 3) (x u w : Int) : (ap t w (ap t u x 0 0).y1 0 0).y1 = (ap t u (ap t w x 0 0).y1 0 0).y1 := by
  rcases ht with rfl | rfl | rfl
  · simp only [ap_add, wrap_in]
    congr 1
    omega
  · simp only [ap_max]
    repeat' split
    all_goals omega
  · simp only [ap_or, ofInt_wrap, ofInt_toNat]
    rw [BitVec.or_assoc, BitVec.or_assoc, BitVec.or_comm (BitVec.ofInt 64 u)]
def sumOf {β : Type} (v : β → Int) : List β → Int
  | [] => 0
  | b :: l => v b + sumOf v l
theorem adds_to {β : Type} (v : β → Int) : ∀ (l : List β) (x : Int), IntKind.i64.wrap (l.foldl (fun x b => IntKind.i64.wrap (x + v b)) x) = IntKind.i64.wrap (x + sumOf v l)
  | [], x => by
    show _ = IntKind.i64.wrap (x + 0)
    rw [Int.add_zero]
    rfl
  | b :: l, x => by
    rw [List.foldl_cons, adds_to v l, wrap_in]
    show _ = IntKind.i64.wrap (x + (v b + sumOf v l))
    rw [Int.add_assoc]
theorem adds_kept {β : Type} (v : β → Int) : ∀ (l : List β) (x : Int), IntKind.i64.wrap x = x → IntKind.i64.wrap (l.foldl (fun x b => IntKind.i64.wrap (x + v b)) x) = l.foldl (fun x b => IntKind.i64.wrap (x + v b)) x
  | [], x, h => h
  | b :: l, x, h => adds_kept v l _ (wrap_wrap _)
theorem sum_neg {β : Type} (v : β → Int) : ∀ (l : List β), sumOf (fun b => - v b) l = - sumOf v l
  | [] => rfl
  | b :: l => by
    show - v b + sumOf _ l = - (v b + sumOf v l)
    rw [sum_neg v l]
    omega
theorem adds_back {β : Type} (v : β → Int) (l : List β) (x : Int) (hx : IntKind.i64.wrap x = x) :
    l.foldl (fun x b => IntKind.i64.wrap (x + -(v b))) (l.foldl (fun x b => IntKind.i64.wrap (x + v b)) x) = x := by
  have h1 := adds_kept (fun b => -(v b)) l _ (adds_kept v l x hx)
  rw [← h1, adds_to (fun b => -(v b)), ← wrap_in, adds_to, wrap_in, sum_neg, show x + sumOf v l + -sumOf v l = x by omega, hx]
end Go.Proofs.YtahflgbdcnipnaaS
