/- Decoding a beginning of what was encoded. Conditions: the entries' kinds. -/
import Derived.Test.YtkdbccloniaogaaFacts09d
set_option linter.unusedVariables false
set_option linter.unusedSimpArgs false
set_option maxRecDepth 10000
namespace Go.Proofs.YtkdbccloniaogaaS
open Go Go.Proofs
theorem enc1_len (e : List PV) : (enc1 e).length = sizeK (kindOf e) := by
  unfold enc1
  rw [List.length_take]
  have := sizeK_le (kindOf e)
  have h12 : (by12 (S38r (PV.agg e))).length = 12 := rfl
  omega
theorem dec_rest {e : List PV} (k1 : 1 ≤ kindOf e) (k3 : kindOf e ≤ 3) (r : List (List PV)) : hd (strOf (enc1 e ++ r)) = kindOf e ∧ (dec1 (strOf (enc1 e ++ r))).2 = strOf r := by
  have hk : kindOf e % 256 = kindOf e := by omega
  by_cases e3 : kindOf e = 3
  · have hq : enc1 e = [u8 (kindOf e)] := by
      show (by12 (S38r (PV.agg e))).take (sizeK (kindOf e)) = _
      rw [show sizeK (kindOf e) = 1 by rw [e3]; rfl]
      rfl
    have hh : hd (strOf (enc1 e ++ r)) = kindOf e := by
      rw [hq]
      exact (hd_u8 _ _).trans hk
    refine ⟨hh, ?_⟩
    unfold dec1
    rw [hh, if_pos e3, hq]
    exact tl_strOf _ _
  · by_cases e2 : kindOf e = 2
    · have hq : enc1 e = [u8 (kindOf e), u8 (S38r (PV.agg e)).a1] := by
        show (by12 (S38r (PV.agg e))).take (sizeK (kindOf e)) = _
        rw [show sizeK (kindOf e) = 2 by rw [e2]; rfl]
        rfl
      have hh : hd (strOf (enc1 e ++ r)) = kindOf e := by
        rw [hq]
        exact (hd_u8 _ _).trans hk
      refine ⟨hh, ?_⟩
      unfold dec1
      rw [hh, if_neg e3, if_pos e2, hq]
      show tl (tl (strOf (u8 (kindOf e) :: u8 (S38r (PV.agg e)).a1 :: r))) = _
      rw [tl_strOf, tl_strOf]
    · have e1 : kindOf e = 1 := by omega
      have hq : enc1 e = by12 (S38r (PV.agg e)) := by
        show (by12 (S38r (PV.agg e))).take (sizeK (kindOf e)) = _
        rw [show sizeK (kindOf e) = 12 by rw [e1]; rfl]
        rfl
      have hh : hd (strOf (enc1 e ++ r)) = kindOf e := by
        rw [hq]
        exact (hd_u8 _ _).trans hk
      refine ⟨hh, ?_⟩
      unfold dec1
      rw [hh, if_neg e3, if_neg e2, hq, val8_num]
      unfold by12
      simp only [List.cons_append, List.nil_append, tl_strOf]
def Kinds (xs : List (List PV)) : Prop := ∀ e ∈ xs, 1 ≤ kindOf e ∧ kindOf e ≤ 3
/-- Whole entries are taken off. -/
theorem cut_loop {n0 : Int} (p : List (List PV)) : ∀ (xs : List (List PV)) (f : Nat) (out : List (List PV)), Kinds xs → ∃ out', decR n0 (xs.length + f) out (strOf (encs xs ++ p)) = decR n0 f out' (strOf p) ∧ out'.length = out.length + xs.length
  | [], f, out, _ => ⟨out, by simp [encs], rfl⟩
  | e :: r, f, out, h => by
    obtain ⟨k1, k3⟩ := h e (by simp)
    have hc : encs (e :: r) ++ p = enc1 e ++ (encs r ++ p) := by
      show (enc1 e ++ encs r) ++ p = _
      rw [List.append_assoc]
    obtain ⟨h1, h2⟩ := dec_rest k1 k3 (encs r ++ p)
    have hl := enc1_len e
    have hp := sizeK_pos (kindOf e)
    rw [hc, List.length_cons, show r.length + 1 + f = (r.length + f) + 1 by omega]
    rw [decR_next (by rw [strOf_size, List.length_append]; omega) (by rw [h1]; exact k1) (by rw [h1]; exact k3) (by rw [h1, strOf_size, List.length_append]; omega), h2]
    obtain ⟨out', h3, h4⟩ := cut_loop p r f (out ++ [(dec1 (strOf (enc1 e ++ (encs r ++ p)))).1]) (fun x hx => h x (by simp [hx]))
    refine ⟨out', h3, ?_⟩
    rw [h4, List.length_append]
    simp only [List.length_cons, List.length_nil]
    omega
theorem encs_length_le (xs : List (List PV)) (h : Kinds xs) : xs.length ≤ (encs xs).length := by
  induction xs with
  | nil => exact Nat.le_refl _
  | cons e r ih =>
    have hl := enc1_len e
    have hp := sizeK_pos (kindOf e)
    have := ih (fun x hx => h x (by simp [hx]))
    show _ ≤ (enc1 e ++ encs r).length
    rw [List.length_append, List.length_cons]
    omega
/-- Whole entries alone. -/
theorem cut_whole {n0 : Int} {xs : List (List PV)} (h : Kinds xs) {f : Nat} (hf : (encs xs).length < f) : ∃ out, decR n0 f [] (strOf (encs xs)) = (out, 0, 0) ∧ out.length = xs.length := by
  have hl := encs_length_le xs h
  obtain ⟨out, h1, h2⟩ := cut_loop (n0 := n0) [] xs (f - xs.length) [] h
  rw [List.append_nil, show xs.length + (f - xs.length) = f by omega] at h1
  refine ⟨out, ?_, by simpa using h2⟩
  rw [h1]
  obtain ⟨g, hg⟩ : ∃ g, f - xs.length = g + 1 := ⟨f - xs.length - 1, by omega⟩
  rw [hg]
  exact decR_end (by rw [strOf_size]; rfl)
/-- Behind whole entries some bytes that are no whole entry. -/
theorem cut_short {n0 : Int} {xs p : List (List PV)} (h : Kinds xs) {f : Nat} (hf : (encs xs).length < f) (h0 : 0 < p.length) (k1 : 1 ≤ hd (strOf p)) (k3 : hd (strOf p) ≤ 3) (hz : p.length < sizeK (hd (strOf p))) : decR n0 f [] (strOf (encs xs ++ p)) = ([], n0 - (p.length : Int), 94) := by
  have hl := encs_length_le xs h
  obtain ⟨out, h1, _⟩ := cut_loop (n0 := n0) p xs (f - xs.length) [] h
  rw [show xs.length + (f - xs.length) = f by omega] at h1
  obtain ⟨g, hg⟩ : ∃ g, f - xs.length = g + 1 := ⟨f - xs.length - 1, by omega⟩
  rw [h1, hg, decR_short (by rw [strOf_size]; exact h0) k1 k3 (by rw [strOf_size]; exact hz), strOf_size]
/-- Behind whole entries a byte that begins none. -/
theorem cut_stop {n0 : Int} {xs p : List (List PV)} (h : Kinds xs) {f : Nat} (hf : (encs xs).length < f) (h0 : 0 < p.length) (k : hd (strOf p) < 1 ∨ 3 < hd (strOf p)) : decR n0 f [] (strOf (encs xs ++ p)) = ([], n0 - (p.length : Int), 90) := by
  have hl := encs_length_le xs h
  obtain ⟨out, h1, _⟩ := cut_loop (n0 := n0) p xs (f - xs.length) [] h
  rw [show xs.length + (f - xs.length) = f by omega] at h1
  obtain ⟨g, hg⟩ : ∃ g, f - xs.length = g + 1 := ⟨f - xs.length - 1, by omega⟩
  rw [h1, hg, decR_stop (by rw [strOf_size]; exact h0) k, strOf_size]
end Go.Proofs.YtkdbccloniaogaaS
