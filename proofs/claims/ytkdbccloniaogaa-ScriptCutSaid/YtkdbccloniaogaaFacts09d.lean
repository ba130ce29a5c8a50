/- Decoding what was encoded, and back. Conditions: none. -/
import Derived.Test.YtkdbccloniaogaaFacts09c
set_option linter.unusedVariables false
set_option linter.unusedSimpArgs false
set_option maxRecDepth 10000
namespace Go.Proofs.YtkdbccloniaogaaS
open Go Go.Proofs
theorem strOf_cons (a : List PV) (r : List (List PV)) : strOf (a :: r) = strOf [a] ++ strOf r := by
  rw [← strOf_append]
  rfl
theorem strOf_same {xs ys : List (List PV)} (h : xs.map byteOf = ys.map byteOf) : strOf xs = strOf ys := by
  apply bytes_ext
  rw [strOf_list, strOf_list, h]
theorem nil_back (t : ByteArray) : strOf [] ++ t = t := by
  apply bytes_ext
  have e : (strOf [] ++ t).data.toList = (strOf []).data.toList ++ t.data.toList := by simp [ByteArray.data_append]
  rw [e, strOf_list]
  rfl
theorem chain {s t : ByteArray} {r : List (List PV)} (h : 0 < s.size) (k : strOf r ++ t = tl s) : strOf (u8 (hd s) :: r) ++ t = s := by
  rw [strOf_cons, ByteArray.append_assoc, k]
  exact cons_back h
theorem u8_of {a b : Int} (h : a % 256 = b) (h0 : 0 ≤ b) (h1 : b < 256) : byteOf (u8 a) = byteOf (u8 b) := u8_congr (by omega)
theorem val_back {s : ByteArray} (h : 8 ≤ s.size) : strOf [vByte (val8 8 0 s).1 56, vByte (val8 8 0 s).1 48, vByte (val8 8 0 s).1 40, vByte (val8 8 0 s).1 32, vByte (val8 8 0 s).1 24, vByte (val8 8 0 s).1 16, vByte (val8 8 0 s).1 8, vByte (val8 8 0 s).1 0] ++ (val8 8 0 s).2 = s := by
  rw [val8_num]
  obtain ⟨p1, q1⟩ := hd_in s
  obtain ⟨p2, q2⟩ := hd_in (tl s)
  obtain ⟨p3, q3⟩ := hd_in (tl (tl s))
  obtain ⟨p4, q4⟩ := hd_in (tl (tl (tl s)))
  obtain ⟨p5, q5⟩ := hd_in (tl (tl (tl (tl s))))
  obtain ⟨p6, q6⟩ := hd_in (tl (tl (tl (tl (tl s)))))
  obtain ⟨p7, q7⟩ := hd_in (tl (tl (tl (tl (tl (tl s))))))
  obtain ⟨p8, q8⟩ := hd_in (tl (tl (tl (tl (tl (tl (tl s)))))))
  have t1 := tl_size s
  have t2 := tl_size (tl s)
  have t3 := tl_size (tl (tl s))
  have t4 := tl_size (tl (tl (tl s)))
  have t5 := tl_size (tl (tl (tl (tl s))))
  have t6 := tl_size (tl (tl (tl (tl (tl s)))))
  have t7 := tl_size (tl (tl (tl (tl (tl (tl s))))))
  obtain ⟨e1, e2, e3, e4, e5, e6, e7, e8⟩ := num8_bytes p1 q1 p2 q2 p3 q3 p4 q4 p5 q5 p6 q6 p7 q7 p8 q8
  have hs := strOf_same (xs := [vByte (num8 (hd s) (hd (tl s)) (hd (tl (tl s))) (hd (tl (tl (tl s)))) (hd (tl (tl (tl (tl s))))) (hd (tl (tl (tl (tl (tl s)))))) (hd (tl (tl (tl (tl (tl (tl s))))))) (hd (tl (tl (tl (tl (tl (tl (tl s))))))))) 56, vByte (num8 (hd s) (hd (tl s)) (hd (tl (tl s))) (hd (tl (tl (tl s)))) (hd (tl (tl (tl (tl s))))) (hd (tl (tl (tl (tl (tl s)))))) (hd (tl (tl (tl (tl (tl (tl s))))))) (hd (tl (tl (tl (tl (tl (tl (tl s))))))))) 48, vByte (num8 (hd s) (hd (tl s)) (hd (tl (tl s))) (hd (tl (tl (tl s)))) (hd (tl (tl (tl (tl s))))) (hd (tl (tl (tl (tl (tl s)))))) (hd (tl (tl (tl (tl (tl (tl s))))))) (hd (tl (tl (tl (tl (tl (tl (tl s))))))))) 40, vByte (num8 (hd s) (hd (tl s)) (hd (tl (tl s))) (hd (tl (tl (tl s)))) (hd (tl (tl (tl (tl s))))) (hd (tl (tl (tl (tl (tl s)))))) (hd (tl (tl (tl (tl (tl (tl s))))))) (hd (tl (tl (tl (tl (tl (tl (tl s))))))))) 32, vByte (num8 (hd s) (hd (tl s)) (hd (tl (tl s))) (hd (tl (tl (tl s)))) (hd (tl (tl (tl (tl s))))) (hd (tl (tl (tl (tl (tl s)))))) (hd (tl (tl (tl (tl (tl (tl s))))))) (hd (tl (tl (tl (tl (tl (tl (tl s))))))))) 24, vByte (num8 (hd s) (hd (tl s)) (hd (tl (tl s))) (hd (tl (tl (tl s)))) (hd (tl (tl (tl (tl s))))) (hd (tl (tl (tl (tl (tl s)))))) (hd (tl (tl (tl (tl (tl (tl s))))))) (hd (tl (tl (tl (tl (tl (tl (tl s))))))))) 16, vByte (num8 (hd s) (hd (tl s)) (hd (tl (tl s))) (hd (tl (tl (tl s)))) (hd (tl (tl (tl (tl s))))) (hd (tl (tl (tl (tl (tl s)))))) (hd (tl (tl (tl (tl (tl (tl s))))))) (hd (tl (tl (tl (tl (tl (tl (tl s))))))))) 8, vByte (num8 (hd s) (hd (tl s)) (hd (tl (tl s))) (hd (tl (tl (tl s)))) (hd (tl (tl (tl (tl s))))) (hd (tl (tl (tl (tl (tl s)))))) (hd (tl (tl (tl (tl (tl (tl s))))))) (hd (tl (tl (tl (tl (tl (tl (tl s))))))))) 0])
    (ys := [u8 (hd s), u8 (hd (tl s)), u8 (hd (tl (tl s))), u8 (hd (tl (tl (tl s)))), u8 (hd (tl (tl (tl (tl s))))), u8 (hd (tl (tl (tl (tl (tl s)))))), u8 (hd (tl (tl (tl (tl (tl (tl s))))))), u8 (hd (tl (tl (tl (tl (tl (tl (tl s))))))))]) (by
      simp only [List.map_cons, List.map_nil, vByte_eq]
      rw [u8_of e1 p1 q1, u8_of e2 p2 q2, u8_of e3 p3 q3, u8_of e4 p4 q4, u8_of e5 p5 q5, u8_of e6 p6 q6, u8_of e7 p7 q7, u8_of e8 p8 q8])
  rw [hs]
  exact chain (by omega) (chain (by omega) (chain (by omega) (chain (by omega) (chain (by omega) (chain (by omega) (chain (by omega) (chain (by omega) (nil_back _))))))))
theorem dec1_back (s : ByteArray) (h0 : 0 < s.size) (k1 : 1 ≤ hd s) (k3 : hd s ≤ 3) (hz : sizeK (hd s) ≤ s.size) : strOf (enc1 (dec1 s).1) ++ (dec1 s).2 = s := by
  have t1 := tl_size s
  have t2 := tl_size (tl s)
  have t3 := tl_size (tl (tl s))
  have t4 := tl_size (tl (tl (tl s)))
  by_cases e3 : hd s = 3
  · have hd1 : dec1 s = (ent (hd s) 0 0 0 0, tl s) := by unfold dec1; rw [if_pos e3]
    rw [hd1]
    have hq : enc1 (ent (hd s) 0 0 0 0) = [u8 (hd s)] := by
      show (by12 ⟨hd s, 0, 0, 0, 0⟩).take (sizeK (hd s)) = _
      rw [show sizeK (hd s) = 1 by rw [e3]; rfl]
      rfl
    rw [hq]
    exact chain h0 (nil_back _)
  · by_cases e1 : hd s = 1
    · have hz12 : 12 ≤ s.size := by rw [e1] at hz; exact hz
      have hd1 : dec1 s = (ent (hd s) (hd (tl s)) (hd (tl (tl s))) (hd (tl (tl (tl s)))) (val8 8 0 (tl (tl (tl (tl s))))).1, (val8 8 0 (tl (tl (tl (tl s))))).2) := by
        unfold dec1
        rw [if_neg (by omega), if_neg (by omega)]
      rw [hd1]
      have hq : enc1 (ent (hd s) (hd (tl s)) (hd (tl (tl s))) (hd (tl (tl (tl s)))) (val8 8 0 (tl (tl (tl (tl s))))).1) = by12 ⟨hd s, hd (tl s), hd (tl (tl s)), hd (tl (tl (tl s))), (val8 8 0 (tl (tl (tl (tl s))))).1⟩ := by
        show (by12 ⟨hd s, _, _, _, _⟩).take (sizeK (hd s)) = _
        rw [show sizeK (hd s) = 12 by rw [e1]; rfl]
        rfl
      rw [hq]
      unfold by12
      exact chain h0 (chain (by omega) (chain (by omega) (chain (by omega) (val_back (by omega)))))
    · have e2 : hd s = 2 := by omega
      have hz2 : 2 ≤ s.size := by rw [e2] at hz; exact hz
      have hd1 : dec1 s = (ent (hd s) (hd (tl s)) 0 0 0, tl (tl s)) := by
        unfold dec1
        rw [if_neg e3, if_pos e2]
      rw [hd1]
      have hq : enc1 (ent (hd s) (hd (tl s)) 0 0 0) = [u8 (hd s), u8 (hd (tl s))] := by
        show (by12 ⟨hd s, hd (tl s), 0, 0, 0⟩).take (sizeK (hd s)) = _
        rw [show sizeK (hd s) = 2 by rw [e2]; rfl]
        rfl
      rw [hq]
      exact chain h0 (chain (by omega) (nil_back _))
/-- What is decoded is what was encoded, if it can be. -/
noncomputable def normE (e : List PV) : List PV :=
  if kindOf e = 3 then ent (kindOf e) 0 0 0 0 else if kindOf e = 2 then ent (kindOf e) (S38r (PV.agg e)).a1 0 0 0 else ent (kindOf e) (S38r (PV.agg e)).a1 (S38r (PV.agg e)).a2 (S38r (PV.agg e)).a3 (S38r (PV.agg e)).a4
def In64 (n : Int) : Prop := -9223372036854775808 ≤ n ∧ n ≤ 9223372036854775807
structure VE (e : List PV) : Prop where
  k1 : 1 ≤ kindOf e
  k3 : kindOf e ≤ 3
  th : kindOf e ≠ 3 → 0 ≤ (S38r (PV.agg e)).a1 ∧ (S38r (PV.agg e)).a1 < 256
  it : kindOf e = 1 → 0 ≤ (S38r (PV.agg e)).a2 ∧ (S38r (PV.agg e)).a2 < 256
  tg : kindOf e = 1 → 0 ≤ (S38r (PV.agg e)).a3 ∧ (S38r (PV.agg e)).a3 < 256
  v : In64 (S38r (PV.agg e)).a4
theorem dec1_fwd {e : List PV} (h : VE e) (r : List (List PV)) : hd (strOf (enc1 e ++ r)) = kindOf e ∧ dec1 (strOf (enc1 e ++ r)) = (normE e, strOf r) := by
  have k1 := h.k1
  have k3 := h.k3
  have hk : kindOf e % 256 = kindOf e := by omega
  by_cases e3 : kindOf e = 3
  · have hq : enc1 e = [u8 (kindOf e)] := by
      show (by12 (S38r (PV.agg e))).take (sizeK (kindOf e)) = _
      rw [show sizeK (kindOf e) = 1 by rw [e3]; rfl]
      rfl
    have hh : hd (strOf (enc1 e ++ r)) = kindOf e := by
      rw [hq]
      exact (hd_u8 _ _).trans hk
    refine ⟨hh, ?_⟩
    unfold dec1 normE
    rw [hh, if_pos e3, if_pos e3, hq]
    rw [show tl (strOf ([u8 (kindOf e)] ++ r)) = strOf r from tl_strOf _ _]
  · obtain ⟨th0, th1⟩ := h.th e3
    by_cases e2 : kindOf e = 2
    · have hq : enc1 e = [u8 (kindOf e), u8 (S38r (PV.agg e)).a1] := by
        show (by12 (S38r (PV.agg e))).take (sizeK (kindOf e)) = _
        rw [show sizeK (kindOf e) = 2 by rw [e2]; rfl]
        rfl
      have hh : hd (strOf (enc1 e ++ r)) = kindOf e := by
        rw [hq]
        exact (hd_u8 _ _).trans hk
      refine ⟨hh, ?_⟩
      unfold dec1 normE
      rw [hh, if_neg e3, if_pos e2, if_neg e3, if_pos e2, hq]
      rw [show tl (strOf ([u8 (kindOf e), u8 (S38r (PV.agg e)).a1] ++ r)) = strOf (u8 (S38r (PV.agg e)).a1 :: r) from tl_strOf _ _, hd_u8, tl_strOf]
      rw [show (S38r (PV.agg e)).a1 % 256 = (S38r (PV.agg e)).a1 by omega]
    · have e1 : kindOf e = 1 := by omega
      obtain ⟨it0, it1⟩ := h.it e1
      obtain ⟨tg0, tg1⟩ := h.tg e1
      obtain ⟨v0, v1⟩ := h.v
      have hq : enc1 e = by12 (S38r (PV.agg e)) := by
        show (by12 (S38r (PV.agg e))).take (sizeK (kindOf e)) = _
        rw [show sizeK (kindOf e) = 12 by rw [e1]; rfl]
        rfl
      have hh : hd (strOf (enc1 e ++ r)) = kindOf e := by
        rw [hq]
        exact (hd_u8 _ _).trans hk
      refine ⟨hh, ?_⟩
      unfold dec1 normE
      rw [hh, if_neg e3, if_neg e2, if_neg e3, if_neg e2, hq, val8_num]
      generalize S38r (PV.agg e) = y at *
      have a1 : tl (strOf (by12 y ++ r)) = strOf ([u8 y.a1, u8 y.a2, u8 y.a3, vByte y.a4 56, vByte y.a4 48, vByte y.a4 40, vByte y.a4 32, vByte y.a4 24, vByte y.a4 16, vByte y.a4 8, vByte y.a4 0] ++ r) := tl_strOf _ _
      rw [a1]
      simp only [List.cons_append, List.nil_append, tl_strOf, vByte_eq, hd_u8]
      rw [show y.a1 % 256 = y.a1 by omega, show y.a2 % 256 = y.a2 by omega, show y.a3 % 256 = y.a3 by omega, num8_own v0 v1]
theorem fwd_loop {n0 : Int} : ∀ (xs : List (List PV)) (f : Nat) (out : List (List PV)), (∀ e ∈ xs, VE e) → (strOf (encs xs)).size < f → decR n0 f out (strOf (encs xs)) = (out ++ xs.map normE, 0, 0)
  | [], f + 1, out, _, h => by
    rw [decR_end (by rw [strOf_size]; rfl), List.map_nil, List.append_nil]
  | e :: r, f + 1, out, hv, h => by
    have he := hv e (by simp)
    have hc : encs (e :: r) = enc1 e ++ encs r := rfl
    obtain ⟨h1, h2⟩ := dec1_fwd he (encs r)
    have hl : (enc1 e).length = sizeK (kindOf e) := by
      unfold enc1
      rw [List.length_take]
      have := sizeK_le (kindOf e)
      have h12 : (by12 (S38r (PV.agg e))).length = 12 := rfl
      omega
    have hp := sizeK_pos (kindOf e)
    rw [hc] at h ⊢
    rw [strOf_size, List.length_append] at h
    rw [decR_next (by rw [strOf_size, List.length_append]; omega) (by rw [h1]; exact he.k1) (by rw [h1]; exact he.k3) (by rw [h1, strOf_size, List.length_append]; omega), h2]
    rw [fwd_loop r f _ (fun x hx => hv x (by simp [hx])) (by rw [strOf_size]; omega)]
    simp
  | [], 0, _, _, h => by omega
  | _ :: _, 0, _, _, h => by omega
def cfg26 (x : S23) : S26 := ⟨x.a0, x.a1, x.a2, x.a3, x.a4, x.a5, x.a6, x.a7, x.a8, x.a9, x.a10, x.a11⟩
theorem chk_same (x : S23) : chkC (cfg26 x) = chk5 x := by
  unfold chkC f13 f13t0 chk5 config_Check.v cfg26
  simp only [Tr.run, Bool.cond_eq_ite, decide_eq_true_eq]
  by_cases l0 : x.a0 < 1
  · rw [if_pos l0, if_pos (Or.inl l0)]
    rfl
  rw [if_neg l0]
  by_cases g0 : x.a0 > 16
  · rw [if_pos g0, if_pos (Or.inr g0)]
    rfl
  rw [if_neg g0, if_neg (not_or.2 ⟨l0, g0⟩)]
  by_cases l1 : x.a1 < 1
  · rw [if_pos l1, if_pos (Or.inl l1)]
    rfl
  rw [if_neg l1]
  by_cases g1 : x.a1 > 4
  · rw [if_pos g1, if_pos (Or.inr g1)]
    rfl
  rw [if_neg g1, if_neg (not_or.2 ⟨l1, g1⟩)]
  by_cases l2 : x.a2 < 1
  · rw [if_pos l2, if_pos (Or.inl l2)]
    rfl
  rw [if_neg l2]
  by_cases g2 : x.a2 > 3
  · rw [if_pos g2, if_pos (Or.inr g2)]
    rfl
  rw [if_neg g2, if_neg (not_or.2 ⟨l2, g2⟩)]
  by_cases l3 : x.a3 < 0
  · rw [if_pos l3, if_pos (Or.inl l3)]
    rfl
  rw [if_neg l3]
  by_cases g3 : x.a3 > 4
  · rw [if_pos g3, if_pos (Or.inr g3)]
    rfl
  rw [if_neg g3, if_neg (not_or.2 ⟨l3, g3⟩)]
  by_cases l4 : x.a4 < 0
  · rw [if_pos l4, if_pos (Or.inl l4)]
    rfl
  rw [if_neg l4]
  by_cases g4 : x.a4 > 3
  · rw [if_pos g4, if_pos (Or.inr g4)]
    rfl
  rw [if_neg g4, if_neg (not_or.2 ⟨l4, g4⟩)]
  by_cases l5 : x.a5 < 1
  · rw [if_pos l5, if_pos (Or.inl l5)]
    rfl
  rw [if_neg l5]
  by_cases g5 : x.a5 > 8
  · rw [if_pos g5, if_pos (Or.inr g5)]
    rfl
  rw [if_neg g5, if_neg (not_or.2 ⟨l5, g5⟩)]
  by_cases l6 : x.a6 < 0
  · rw [if_pos l6, if_pos (Or.inl l6)]
    rfl
  rw [if_neg l6]
  by_cases g6 : x.a6 > 20
  · rw [if_pos g6, if_pos (Or.inr g6)]
    rfl
  rw [if_neg g6, if_neg (not_or.2 ⟨l6, g6⟩)]
  by_cases l7 : x.a7 < 0
  · rw [if_pos l7, if_pos (Or.inl l7)]
    rfl
  rw [if_neg l7]
  by_cases g7 : x.a7 > 1000
  · rw [if_pos g7, if_pos (Or.inr g7)]
    rfl
  rw [if_neg g7, if_neg (not_or.2 ⟨l7, g7⟩)]
  by_cases b : x.a8 = true
  · rw [if_pos b]
    by_cases p : x.a9 > x.a11
    · rw [if_pos p, if_pos ⟨b, Or.inl p⟩]
      rfl
    rw [if_neg p]
    by_cases q : x.a11 > x.a10
    · rw [if_pos q, if_pos ⟨b, Or.inr q⟩]
      rfl
    rw [if_neg q, if_neg (fun h => h.2.elim p q)]
    rfl
  · rw [if_neg b, if_neg (fun h => b h.1)]
    rfl
/-- May such an op be? -/
def opB (b : Bool) (tag v : Int) : Bool := bif b then (tag == 8 || (tag == 9 && decide (v ≥ 0))) else (decide (1 ≤ tag) && decide (tag ≤ 7))
def chkP (t n : Int) (b : Bool) (k th it tag v : Int) : Int :=
  if k < 1 ∨ 3 < k then 90 else if k = 3 then 0 else if th < 0 ∨ t ≤ th then 91 else if k = 2 then 0 else if it < 0 ∨ n ≤ it then 92 else bif opB b tag v then 0 else 93
theorem f15_P (x : S26) (y : S42) : f15 0 x y = some ⟨chkP x.a0 x.a1 x.a8 y.a0 y.a1 y.a2 y.a3 y.a4⟩ := by
  obtain ⟨k, th, it, tag, v⟩ := y
  unfold f15 f15t0 chkP
  dsimp only
  refine run_test (fun h => ?_) (fun h => ?_)
  · rw [if_pos (Or.inl (of_decide_eq_true h))]; rfl
  have k1 := of_decide_eq_false h
  refine run_test (fun h => ?_) (fun h => ?_)
  · rw [if_pos (Or.inr (of_decide_eq_true h))]; rfl
  have k2 := of_decide_eq_false h
  rw [if_neg (by omega)]
  refine run_test (fun h => ?_) (fun h => ?_)
  · rw [if_pos (by simpa using h)]; rfl
  have k3 : ¬ k = 3 := by simpa using h
  rw [if_neg k3]
  refine run_test (fun h => ?_) (fun h => ?_)
  · rw [if_pos (Or.inl (of_decide_eq_true h))]; rfl
  have t1 := of_decide_eq_false h
  refine run_test (fun h => ?_) (fun h => ?_)
  · rw [if_pos (Or.inr (of_decide_eq_true h))]; rfl
  have t2 := of_decide_eq_false h
  rw [if_neg (by omega)]
  refine run_test (fun h => ?_) (fun h => ?_)
  · rw [if_pos (by simpa using h)]; rfl
  have k4 : ¬ k = 2 := by simpa using h
  rw [if_neg k4]
  refine run_test (fun h => ?_) (fun h => ?_)
  · rw [if_pos (Or.inl (of_decide_eq_true h))]; rfl
  have i1 := of_decide_eq_false h
  refine run_test (fun h => ?_) (fun h => ?_)
  · rw [if_pos (Or.inr (of_decide_eq_true h))]; rfl
  have i2 := of_decide_eq_false h
  rw [if_neg (by omega)]
  unfold opB
  cases hb : x.a8 with
  | true =>
    refine run_true rfl ?_
    refine run_test (fun h => by rw [h]; rfl) (fun h => ?_)
    rw [h]
    refine run_test (fun h => ?_) (fun h => by rw [h]; rfl)
    rw [h]
    cases hv : decide (v ≥ 0) with
    | true => exact run_false rfl rfl
    | false => exact run_true rfl rfl
  | false =>
    refine run_false rfl ?_
    cases hv : decide (1 ≤ tag) with
    | false => exact run_false rfl rfl
    | true =>
      refine run_true rfl ?_
      cases hw : decide (tag ≤ 7) with
      | true => exact run_false rfl rfl
      | false => exact run_true rfl rfl
theorem op14 {α : Type} (b : Bool) (tag v : Int) {A B : Tr α} {r : Option α} (hA : opB b tag v = false → A.run = r) (hB : opB b tag v = true → B.run = r) : (Tr.test (!b) (.test (decide ((1 : Int) ≤ tag)) (.test (decide (tag ≤ (9 : Int))) (.test (!decide (tag < (8 : Int))) A B) A) A) (.test (tag == (9 : Int)) (.test (!decide (v ≥ (0 : Int))) A B) (.test (!tag == (8 : Int)) A B))).run = r := by
  unfold opB at hA hB
  cases b with
  | false =>
    simp only [cond_false] at hA hB
    refine run_true rfl ?_
    cases h1 : decide (1 ≤ tag) with
    | false => exact run_false rfl (hA (by rw [h1]; rfl))
    | true =>
      refine run_true rfl ?_
      by_cases h7 : tag ≤ 7
      · have e7 : decide (tag ≤ 7) = true := decide_eq_true h7
        exact run_true (decide_eq_true (by omega)) (run_false (by rw [decide_eq_true (show tag < 8 by omega)]; rfl) (hB (by rw [h1, e7]; rfl)))
      · have e7 : decide (tag ≤ 7) = false := decide_eq_false h7
        refine run_test (fun _ => run_true (by rw [decide_eq_false (show ¬ tag < 8 by omega)]; rfl) (hA (by rw [h1, e7]; rfl))) (fun _ => hA (by rw [h1, e7]; rfl))
  | true =>
    simp only [cond_true] at hA hB
    refine run_false rfl ?_
    refine run_test (fun h9 => ?_) (fun h9 => ?_)
    · have e8 : (tag == 8) = false := by
        have : tag = 9 := by simpa using h9
        rw [this]; rfl
      cases hv : decide (v ≥ 0) with
      | true => exact run_false rfl (hB (by rw [e8, h9, hv]; rfl))
      | false => exact run_true rfl (hA (by rw [e8, h9, hv]; rfl))
    · cases h8 : (tag == 8) with
      | true => exact run_false rfl (hB (by rw [h8]; rfl))
      | false => exact run_true rfl (hA (by rw [h8, h9]; rfl))
theorem arm14 (x : S23) (y : S38) (hk : y.a0 = 1 ∨ y.a0 = 2) : (Tr.test (decide ((0 : Int) ≤ y.a1)) (.test (!decide (y.a1 < x.a0)) (.ret (f14o.r0 (91 : Int))) (.test (y.a0 == (2 : Int)) (.ret (.r0 ((0 : Int)))) (.test (decide ((0 : Int) ≤ y.a2)) (.test (!decide (y.a2 < x.a1)) (.ret (.r0 ((92 : Int)))) (.test (!x.a8) (.test (decide ((1 : Int) ≤ y.a3)) (.test (decide (y.a3 ≤ (9 : Int))) (.test (!decide (y.a3 < (8 : Int))) (.ret (.r0 ((93 : Int)))) (.ret (.r0 ((0 : Int))))) (.ret (.r0 ((93 : Int))))) (.ret (.r0 ((93 : Int))))) (.test (y.a3 == (9 : Int)) (.test (!decide (y.a4 ≥ (0 : Int))) (.ret (.r0 ((93 : Int)))) (.ret (.r0 ((0 : Int))))) (.test (!y.a3 == (8 : Int)) (.ret (.r0 ((93 : Int)))) (.ret (.r0 ((0 : Int)))))))) (.ret (.r0 ((92 : Int))))))) (.ret (.r0 ((91 : Int))))).run = some ⟨chkP x.a0 x.a1 x.a8 y.a0 y.a1 y.a2 y.a3 y.a4⟩ := by
  unfold chkP
  rw [if_neg (by omega), if_neg (by omega)]
  by_cases t : y.a1 < 0 ∨ x.a0 ≤ y.a1
  · rw [if_pos t]
    by_cases t0 : y.a1 < 0
    · exact run_false (decide_eq_false (by omega)) rfl
    · exact run_true (decide_eq_true (by omega)) (run_true (by rw [decide_eq_false (show ¬ y.a1 < x.a0 by omega)]; rfl) rfl)
  rw [if_neg t]
  refine run_true (decide_eq_true (by omega)) (run_false (by rw [decide_eq_true (show y.a1 < x.a0 by omega)]; rfl) ?_)
  by_cases k2 : y.a0 = 2
  · rw [if_pos k2]
    exact run_true (by simpa using k2) rfl
  rw [if_neg k2]
  refine run_false (by simpa using k2) ?_
  by_cases i : y.a2 < 0 ∨ x.a1 ≤ y.a2
  · rw [if_pos i]
    by_cases i0 : y.a2 < 0
    · exact run_false (decide_eq_false (by omega)) rfl
    · exact run_true (decide_eq_true (by omega)) (run_true (by rw [decide_eq_false (show ¬ y.a2 < x.a1 by omega)]; rfl) rfl)
  rw [if_neg i]
  refine run_true (decide_eq_true (by omega)) (run_false (by rw [decide_eq_true (show y.a2 < x.a1 by omega)]; rfl) ?_)
  exact op14 x.a8 y.a3 y.a4 (fun h => by rw [h]; rfl) (fun h => by rw [h]; rfl)
theorem f14_P (x : S23) (y : S38) : f14 0 x y = some ⟨chkP x.a0 x.a1 x.a8 y.a0 y.a1 y.a2 y.a3 y.a4⟩ := by
  unfold f14 f14t0
  by_cases k1 : y.a0 = 1
  · exact run_true (by simpa using k1) (arm14 x y (.inl k1))
  refine run_false (by simpa using k1) ?_
  by_cases k2 : y.a0 = 2
  · exact run_true (by simpa using k2) (arm14 x y (.inr k2))
  refine run_false (by simpa using k2) ?_
  by_cases k3 : y.a0 = 3
  · refine run_true (by simpa using k3) ?_
    unfold chkP
    rw [if_neg (by omega), if_pos k3]
    rfl
  · refine run_false (by simpa using k3) ?_
    unfold chkP
    rw [if_pos (by omega)]
    rfl
theorem chkE_same (x : S23) (e : List PV) : chkE11 x e = chkE12 (cfg26 x) e := by
  unfold chkE11 chkE12
  rw [f14_P, f15_P]
  rfl
theorem all_same (x : S23) (xs : List (List PV)) : all12R (cfg26 x) xs = all11R x xs := by
  unfold all12R all11R
  rw [chk_same]
  have : (fun j => chkE12 (cfg26 x) (xs.getD j [])) = fun j => chkE11 x (xs.getD j []) := by
    funext j
    rw [chkE_same]
  rw [this]
end Go.Proofs.YtkdbccloniaogaaS
