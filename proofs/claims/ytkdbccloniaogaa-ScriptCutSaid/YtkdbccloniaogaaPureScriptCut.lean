/- The pure statement that is left of ScriptCut. Conditions: the numbers' own ranges. -/
import Derived.Test.YtkdbccloniaogaaF5x8b
import Derived.Test.YtkdbccloniaogaaFacts09f
import Derived.Test.YtkdbccloniaogaaSimPure
set_option linter.unusedVariables false
set_option linter.unusedSimpArgs false
set_option maxRecDepth 10000
namespace Go.Proofs.YtkdbccloniaogaaS
open Go Go.Proofs
theorem small_encs {xs : List (List PV)} (h : xs.length ≤ 60) : (encs xs).length ≤ 720 := by
  have := encs_le xs
  omega
/-- Where the bytes are cut. -/
theorem place_at {W : ByteArray} {m : Nat} (hs : W.size = m) (hm : m ≤ 720) {x1 : Int} (r0 : 0 ≤ x1) (r1 : x1 ≤ 65535) : ∃ n : Nat, (IntKind.i64.wrap x1).tmod (IntKind.i64.wrap ((W.size : Int) + 1)) = (n : Int) ∧ n ≤ m := by
  rw [show IntKind.i64.wrap x1 = x1 from wrap_small (by omega) (by omega), show IntKind.i64.wrap ((W.size : Int) + 1) = (W.size : Int) + 1 from wrap_small (by omega) (by omega), hs]
  have h0 := Int.tmod_nonneg ((m : Int) + 1) r0
  have h1 := Int.tmod_lt_of_pos x1 (show (0 : Int) < (m : Int) + 1 by omega)
  exact ⟨(x1.tmod ((m : Int) + 1)).toNat, by omega, by omega⟩
noncomputable def endsL (xs : List (List PV)) (m : Nat) : List (List PV) := (List.range m).map fun j => [PV.int .i64 (endL xs j : Int)]
theorem endsL_len (xs : List (List PV)) (m : Nat) : (endsL xs m).length = m := by simp [endsL]
theorem endsL_get {xs : List (List PV)} {m j : Nat} (h : j < m) : pInt (((endsL xs m).getD j []).headD PV.undef) = (endL xs j : Int) := by
  unfold endsL
  rw [List.getD_eq_getElem?_getD, List.getElem?_map, List.getElem?_range h]
  rfl
theorem endsL_next (xs : List (List PV)) (m : Nat) : endsL xs (m + 1) = endsL xs m ++ [[PV.int .i64 (endL xs m : Int)]] := by
  unfold endsL
  rw [List.range_succ, List.map_append]
  rfl
theorem one_piece {xs : List (List PV)} {i : Nat} (h : i < xs.length) : List.drop i (List.take (i + 1) xs) = [xs.getD i []] := by
  rw [List.getD_eq_getElem?_getD, List.getElem?_eq_getElem h, Option.getD_some, List.drop_take, show i + 1 - i = 1 by omega, List.drop_eq_getElem_cons h]
  rfl
theorem str_next {xs : List (List PV)} {i : Nat} (h : i < xs.length) : strOf (encs (xs.take i)) ++ strOf (encs (List.drop i (List.take (i + 1) xs))) = strOf (encs (xs.take (i + 1))) := by
  rw [← strOf_append, one_piece h, encs_next h]
  simp [encs]
theorem no_bytes (s : ByteArray) : ({ data := #[] } : ByteArray) ++ s = s := nil_back s
set_option maxHeartbeats 4000000 in
theorem tail1 {N : Nat} {x0 : List (List PV)} {x1 x2 : Int} (hk : Kinds x0) (hl : x0.length ≤ 60) (r2 : 0 ≤ x2 ∧ x2 ≤ 255) (hW : ({ data := #[] } : ByteArray) = strOf (encs x0)) {n : Nat} (hT : (IntKind.i64.wrap x1).tmod (IntKind.i64.wrap (((({ data := #[] } : ByteArray)).size : Int) + 1)) = (n : Int)) (hn : n ≤ (encs x0).length) : f8c65 N x0 x1 x2 (begF x0 (n : Int) (x0.length + 1)) = some ⟨true⟩ := by
  obtain ⟨gA, gB, gC⟩ := cut_at hk hn
  have hsm := small_encs hl
  generalize begF x0 (n : Int) (x0.length + 1) = w at gA gB gC ⊢
  have hs : (({ data := #[] } : ByteArray)).size = (encs x0).length := by rw [hW, strOf_size]
  have hX : (({ data := #[] } : ByteArray)).extract ((0 : Nat) : Int).toNat ((IntKind.i64.wrap x1).tmod (IntKind.i64.wrap (((({ data := #[] } : ByteArray)).size : Int) + 1))).toNat = strOf ((encs x0).take n) := by
    rw [hT]
    show (({ data := #[] } : ByteArray)).extract 0 n = _
    rw [hW, cut_extract]
  have hY : ({ data := #[] } : ByteArray) ++ strOf [[PV.int IntKind.u8 x2]] = strOf (encs x0) ++ strOf [[PV.int IntKind.u8 x2]] := by rw [hW]
  obtain ⟨m3, m2, m1⟩ := cut_more hk r2.1 r2.2
  have hz : ((({ data := #[] } : ByteArray)).size : Int) = ((strOf (encs x0)).size : Int) := by rw [hW]
  rw [← hz] at m2 m1
  rw [← hY] at m3 m2 m1
  have c1 : (decide ((0 : Int) ≤ ((0 : Nat) : Int)) && decide (((0 : Nat) : Int) ≤ (IntKind.i64.wrap x1).tmod (IntKind.i64.wrap (((({ data := #[] } : ByteArray)).size : Int) + 1))) && decide ((IntKind.i64.wrap x1).tmod (IntKind.i64.wrap (((({ data := #[] } : ByteArray)).size : Int) + 1)) ≤ ((({ data := #[] } : ByteArray)).size : Int))) = true := by
    rw [hT, decide_eq_true (show (0 : Int) ≤ ((0 : Nat) : Int) by omega), decide_eq_true (show ((0 : Nat) : Int) ≤ (n : Int) by omega), decide_eq_true (show (n : Int) ≤ ((({ data := #[] } : ByteArray)).size : Int) by omega)]
    rfl
  have c2 : decide (((({ data := #[] } : ByteArray)).extract ((0 : Nat) : Int).toNat ((IntKind.i64.wrap x1).tmod (IntKind.i64.wrap (((({ data := #[] } : ByteArray)).size : Int) + 1))).toNat).size ≤ 900000) = true := by
    rw [hX, strOf_size, List.length_take]
    exact decide_eq_true (by omega)
  have c10 : decide ((({ data := #[] } : ByteArray)).size + (strOf [[PV.int IntKind.u8 x2]]).size ≤ 4611686018427387904) = true := by
    rw [hs, strOf_size]
    exact decide_eq_true (show (encs x0).length + 1 ≤ 4611686018427387904 by omega)
  have c11 : decide ((({ data := #[] } : ByteArray) ++ strOf [[PV.int IntKind.u8 x2]]).size ≤ 900000) = true := by
    rw [ByteArray.size_append, hs, strOf_size]
    exact decide_eq_true (show (encs x0).length + 1 ≤ 900000 by omega)
  have fin : ∀ (_ : True), (x2 = 3 ∨ (1 ≤ x2 ∧ x2 < 3) ∨ x2 < 1 ∨ 3 < x2) := fun _ => by omega
  by_cases hw : w < (n : Int)
  · have dA : (dec18 ((({ data := #[] } : ByteArray)).extract ((0 : Nat) : Int).toNat ((IntKind.i64.wrap x1).tmod (IntKind.i64.wrap (((({ data := #[] } : ByteArray)).size : Int) + 1))).toNat)) = ([], w, 94) := by rw [hX]; exact gA hw
    have c3 : decide (w < (IntKind.i64.wrap x1).tmod (IntKind.i64.wrap (((({ data := #[] } : ByteArray)).size : Int) + 1))) = true := by rw [hT]; exact decide_eq_true hw
    have c4 : decide ((((dec18 ((({ data := #[] } : ByteArray)).extract ((0 : Nat) : Int).toNat ((IntKind.i64.wrap x1).tmod (IntKind.i64.wrap (((({ data := #[] } : ByteArray)).size : Int) + 1))).toNat))).1.length : Int) > 0) = false := by rw [dA]; rfl
    have c5 : (((dec18 ((({ data := #[] } : ByteArray)).extract ((0 : Nat) : Int).toNat ((IntKind.i64.wrap x1).tmod (IntKind.i64.wrap (((({ data := #[] } : ByteArray)).size : Int) + 1))).toNat))).2.1 != w) = false := by rw [dA]; exact bne_self_eq_false w
    have c6 : (((dec18 ((({ data := #[] } : ByteArray)).extract ((0 : Nat) : Int).toNat ((IntKind.i64.wrap x1).tmod (IntKind.i64.wrap (((({ data := #[] } : ByteArray)).size : Int) + 1))).toNat))).2.2 != 94) = false := by rw [dA]; rfl
    have c7 : (w == (IntKind.i64.wrap x1).tmod (IntKind.i64.wrap (((({ data := #[] } : ByteArray)).size : Int) + 1))) = false := by rw [hT]; exact beq_eq_false_iff_ne.2 (by omega)
    rcases fin trivial with h | ⟨h, h'⟩ | h | h
    · obtain ⟨out, d1, d2⟩ := m3 h
      have c12 : decide (x2 ≥ 1) = true := decide_eq_true (by omega)
      have c13 : decide (x2 ≤ 3) = true := decide_eq_true (by omega)
      have c14 : (x2 == 3) = true := by rw [h]; rfl
      have c15 : (((dec18 (({ data := #[] } : ByteArray) ++ strOf [[PV.int IntKind.u8 x2]]))).2.2 == 0) = true := by rw [d1]; rfl
      have c16 : ((((dec18 (({ data := #[] } : ByteArray) ++ strOf [[PV.int IntKind.u8 x2]]))).1.length : Int) == IntKind.i64.wrap ((x0.length : Int) + 1)) = true := by
        rw [d1, wrap_next (by omega)]
        show ((out.length : Int) == _) = true
        rw [d2]
        exact beq_self_eq_true _
      exact bif_true c1 (bif_true c2 (bif_true c3 (bif_false c4 (bif_false c5 (bif_false c6 (bif_false c7 (bif_true c12 (bif_true c13 (bif_true c14 (bif_true c15 (bif_true c16 (rfl))))))))))))
    · have d1 := m2 h h'
      have c12 : decide (x2 ≥ 1) = true := decide_eq_true (by omega)
      have c13 : decide (x2 ≤ 3) = true := decide_eq_true (by omega)
      have c14 : (x2 == 3) = false := beq_eq_false_iff_ne.2 (by omega)
      have c17 : (x2 != 3) = true := bne_iff_ne.2 (by omega)
      have c18 : (((dec18 (({ data := #[] } : ByteArray) ++ strOf [[PV.int IntKind.u8 x2]]))).2.2 == 94) = true := by rw [d1]; rfl
      have c20 : (((dec18 (({ data := #[] } : ByteArray) ++ strOf [[PV.int IntKind.u8 x2]]))).2.1 == ((({ data := #[] } : ByteArray)).size : Int)) = true := by rw [d1]; exact beq_self_eq_true _
      exact bif_true c1 (bif_true c2 (bif_true c3 (bif_false c4 (bif_false c5 (bif_false c6 (bif_false c7 (bif_true c12 (bif_true c13 (bif_false c14 (bif_true c17 (bif_true c18 ((congrArg (fun b => some (f8o.r0 b)) c20)))))))))))))
    · have d1 := m1 (.inl h)
      have c12 : decide (x2 ≥ 1) = false := decide_eq_false (by omega)
      have c19 : ((((dec18 (({ data := #[] } : ByteArray) ++ strOf [[PV.int IntKind.u8 x2]]))).1.length : Int) == 0) = true := by rw [d1]; rfl
      have c20 : (((dec18 (({ data := #[] } : ByteArray) ++ strOf [[PV.int IntKind.u8 x2]]))).2.1 == ((({ data := #[] } : ByteArray)).size : Int)) = true := by rw [d1]; exact beq_self_eq_true _
      have c21 : (((dec18 (({ data := #[] } : ByteArray) ++ strOf [[PV.int IntKind.u8 x2]]))).2.2 == 90) = true := by rw [d1]; rfl
      exact bif_true c1 (bif_true c2 (bif_true c3 (bif_false c4 (bif_false c5 (bif_false c6 (bif_false c7 (bif_false c12 (bif_true c19 (bif_true c20 ((congrArg (fun b => some (f8o.r0 b)) c21)))))))))))
    · have d1 := m1 (.inr h)
      have c12 : decide (x2 ≥ 1) = true := decide_eq_true (by omega)
      have c13 : decide (x2 ≤ 3) = false := decide_eq_false (by omega)
      have c19 : ((((dec18 (({ data := #[] } : ByteArray) ++ strOf [[PV.int IntKind.u8 x2]]))).1.length : Int) == 0) = true := by rw [d1]; rfl
      have c20 : (((dec18 (({ data := #[] } : ByteArray) ++ strOf [[PV.int IntKind.u8 x2]]))).2.1 == ((({ data := #[] } : ByteArray)).size : Int)) = true := by rw [d1]; exact beq_self_eq_true _
      have c21 : (((dec18 (({ data := #[] } : ByteArray) ++ strOf [[PV.int IntKind.u8 x2]]))).2.2 == 90) = true := by rw [d1]; rfl
      exact bif_true c1 (bif_true c2 (bif_true c3 (bif_false c4 (bif_false c5 (bif_false c6 (bif_false c7 (bif_true c12 (bif_false c13 (bif_true c19 (bif_true c20 ((congrArg (fun b => some (f8o.r0 b)) c21))))))))))))
  · have he : w = (n : Int) := by omega
    obtain ⟨ob, hob⟩ := gB he
    have dB : (dec18 ((({ data := #[] } : ByteArray)).extract ((0 : Nat) : Int).toNat ((IntKind.i64.wrap x1).tmod (IntKind.i64.wrap (((({ data := #[] } : ByteArray)).size : Int) + 1))).toNat)) = (ob, 0, 0) := by rw [hX]; exact hob
    have c3 : decide (w < (IntKind.i64.wrap x1).tmod (IntKind.i64.wrap (((({ data := #[] } : ByteArray)).size : Int) + 1))) = false := by rw [hT]; exact decide_eq_false hw
    have c7 : (w == (IntKind.i64.wrap x1).tmod (IntKind.i64.wrap (((({ data := #[] } : ByteArray)).size : Int) + 1))) = true := by rw [hT, he]; exact beq_self_eq_true _
    have c8 : (((dec18 ((({ data := #[] } : ByteArray)).extract ((0 : Nat) : Int).toNat ((IntKind.i64.wrap x1).tmod (IntKind.i64.wrap (((({ data := #[] } : ByteArray)).size : Int) + 1))).toNat))).2.2 != 0) = false := by rw [dB]; rfl
    have c9 : (((dec18 ((({ data := #[] } : ByteArray)).extract ((0 : Nat) : Int).toNat ((IntKind.i64.wrap x1).tmod (IntKind.i64.wrap (((({ data := #[] } : ByteArray)).size : Int) + 1))).toNat))).2.1 != 0) = false := by rw [dB]; rfl
    rcases fin trivial with h | ⟨h, h'⟩ | h | h
    · obtain ⟨out, d1, d2⟩ := m3 h
      have c12 : decide (x2 ≥ 1) = true := decide_eq_true (by omega)
      have c13 : decide (x2 ≤ 3) = true := decide_eq_true (by omega)
      have c14 : (x2 == 3) = true := by rw [h]; rfl
      have c15 : (((dec18 (({ data := #[] } : ByteArray) ++ strOf [[PV.int IntKind.u8 x2]]))).2.2 == 0) = true := by rw [d1]; rfl
      have c16 : ((((dec18 (({ data := #[] } : ByteArray) ++ strOf [[PV.int IntKind.u8 x2]]))).1.length : Int) == IntKind.i64.wrap ((x0.length : Int) + 1)) = true := by
        rw [d1, wrap_next (by omega)]
        show ((out.length : Int) == _) = true
        rw [d2]
        exact beq_self_eq_true _
      exact bif_true c1 (bif_true c2 (bif_false c3 (bif_true c7 (bif_false c8 (bif_false c9 (bif_true c12 (bif_true c13 (bif_true c14 (bif_true c15 (bif_true c16 (rfl)))))))))))
    · have d1 := m2 h h'
      have c12 : decide (x2 ≥ 1) = true := decide_eq_true (by omega)
      have c13 : decide (x2 ≤ 3) = true := decide_eq_true (by omega)
      have c14 : (x2 == 3) = false := beq_eq_false_iff_ne.2 (by omega)
      have c17 : (x2 != 3) = true := bne_iff_ne.2 (by omega)
      have c18 : (((dec18 (({ data := #[] } : ByteArray) ++ strOf [[PV.int IntKind.u8 x2]]))).2.2 == 94) = true := by rw [d1]; rfl
      have c20 : (((dec18 (({ data := #[] } : ByteArray) ++ strOf [[PV.int IntKind.u8 x2]]))).2.1 == ((({ data := #[] } : ByteArray)).size : Int)) = true := by rw [d1]; exact beq_self_eq_true _
      exact bif_true c1 (bif_true c2 (bif_false c3 (bif_true c7 (bif_false c8 (bif_false c9 (bif_true c12 (bif_true c13 (bif_false c14 (bif_true c17 (bif_true c18 ((congrArg (fun b => some (f8o.r0 b)) c20))))))))))))
    · have d1 := m1 (.inl h)
      have c12 : decide (x2 ≥ 1) = false := decide_eq_false (by omega)
      have c19 : ((((dec18 (({ data := #[] } : ByteArray) ++ strOf [[PV.int IntKind.u8 x2]]))).1.length : Int) == 0) = true := by rw [d1]; rfl
      have c20 : (((dec18 (({ data := #[] } : ByteArray) ++ strOf [[PV.int IntKind.u8 x2]]))).2.1 == ((({ data := #[] } : ByteArray)).size : Int)) = true := by rw [d1]; exact beq_self_eq_true _
      have c21 : (((dec18 (({ data := #[] } : ByteArray) ++ strOf [[PV.int IntKind.u8 x2]]))).2.2 == 90) = true := by rw [d1]; rfl
      exact bif_true c1 (bif_true c2 (bif_false c3 (bif_true c7 (bif_false c8 (bif_false c9 (bif_false c12 (bif_true c19 (bif_true c20 ((congrArg (fun b => some (f8o.r0 b)) c21))))))))))
    · have d1 := m1 (.inr h)
      have c12 : decide (x2 ≥ 1) = true := decide_eq_true (by omega)
      have c13 : decide (x2 ≤ 3) = false := decide_eq_false (by omega)
      have c19 : ((((dec18 (({ data := #[] } : ByteArray) ++ strOf [[PV.int IntKind.u8 x2]]))).1.length : Int) == 0) = true := by rw [d1]; rfl
      have c20 : (((dec18 (({ data := #[] } : ByteArray) ++ strOf [[PV.int IntKind.u8 x2]]))).2.1 == ((({ data := #[] } : ByteArray)).size : Int)) = true := by rw [d1]; exact beq_self_eq_true _
      have c21 : (((dec18 (({ data := #[] } : ByteArray) ++ strOf [[PV.int IntKind.u8 x2]]))).2.2 == 90) = true := by rw [d1]; rfl
      exact bif_true c1 (bif_true c2 (bif_false c3 (bif_true c7 (bif_false c8 (bif_false c9 (bif_true c12 (bif_false c13 (bif_true c19 (bif_true c20 ((congrArg (fun b => some (f8o.r0 b)) c21)))))))))))
set_option maxHeartbeats 4000000 in
theorem tail2 {N : Nat} {x0 : List (List PV)} {x1 x2 : Int} (hk : Kinds x0) (hl : x0.length ≤ 60) (r2 : 0 ≤ x2 ∧ x2 ≤ 255) (hW : (({ data := #[] } : ByteArray) ++ strOf (encs (List.drop 0 (List.take 1 x0)))) = strOf (encs x0)) {n : Nat} (hT : (IntKind.i64.wrap x1).tmod (IntKind.i64.wrap ((((({ data := #[] } : ByteArray) ++ strOf (encs (List.drop 0 (List.take 1 x0))))).size : Int) + 1)) = (n : Int)) (hn : n ≤ (encs x0).length) : f8c155 N x0 x1 x2 (begF x0 (n : Int) (x0.length + 1)) = some ⟨true⟩ := by
  obtain ⟨gA, gB, gC⟩ := cut_at hk hn
  have hsm := small_encs hl
  generalize begF x0 (n : Int) (x0.length + 1) = w at gA gB gC ⊢
  have hs : ((({ data := #[] } : ByteArray) ++ strOf (encs (List.drop 0 (List.take 1 x0))))).size = (encs x0).length := by rw [hW, strOf_size]
  have hX : ((({ data := #[] } : ByteArray) ++ strOf (encs (List.drop 0 (List.take 1 x0))))).extract ((0 : Nat) : Int).toNat ((IntKind.i64.wrap x1).tmod (IntKind.i64.wrap ((((({ data := #[] } : ByteArray) ++ strOf (encs (List.drop 0 (List.take 1 x0))))).size : Int) + 1))).toNat = strOf ((encs x0).take n) := by
    rw [hT]
    show ((({ data := #[] } : ByteArray) ++ strOf (encs (List.drop 0 (List.take 1 x0))))).extract 0 n = _
    rw [hW, cut_extract]
  have hY : (({ data := #[] } : ByteArray) ++ strOf (encs (List.drop 0 (List.take 1 x0)))) ++ strOf [[PV.int IntKind.u8 x2]] = strOf (encs x0) ++ strOf [[PV.int IntKind.u8 x2]] := by rw [hW]
  obtain ⟨m3, m2, m1⟩ := cut_more hk r2.1 r2.2
  have hz : (((({ data := #[] } : ByteArray) ++ strOf (encs (List.drop 0 (List.take 1 x0))))).size : Int) = ((strOf (encs x0)).size : Int) := by rw [hW]
  rw [← hz] at m2 m1
  rw [← hY] at m3 m2 m1
  have c1 : (decide ((0 : Int) ≤ ((0 : Nat) : Int)) && decide (((0 : Nat) : Int) ≤ (IntKind.i64.wrap x1).tmod (IntKind.i64.wrap ((((({ data := #[] } : ByteArray) ++ strOf (encs (List.drop 0 (List.take 1 x0))))).size : Int) + 1))) && decide ((IntKind.i64.wrap x1).tmod (IntKind.i64.wrap ((((({ data := #[] } : ByteArray) ++ strOf (encs (List.drop 0 (List.take 1 x0))))).size : Int) + 1)) ≤ (((({ data := #[] } : ByteArray) ++ strOf (encs (List.drop 0 (List.take 1 x0))))).size : Int))) = true := by
    rw [hT, decide_eq_true (show (0 : Int) ≤ ((0 : Nat) : Int) by omega), decide_eq_true (show ((0 : Nat) : Int) ≤ (n : Int) by omega), decide_eq_true (show (n : Int) ≤ (((({ data := #[] } : ByteArray) ++ strOf (encs (List.drop 0 (List.take 1 x0))))).size : Int) by omega)]
    rfl
  have c2 : decide ((((({ data := #[] } : ByteArray) ++ strOf (encs (List.drop 0 (List.take 1 x0))))).extract ((0 : Nat) : Int).toNat ((IntKind.i64.wrap x1).tmod (IntKind.i64.wrap ((((({ data := #[] } : ByteArray) ++ strOf (encs (List.drop 0 (List.take 1 x0))))).size : Int) + 1))).toNat).size ≤ 900000) = true := by
    rw [hX, strOf_size, List.length_take]
    exact decide_eq_true (by omega)
  have c10 : decide (((({ data := #[] } : ByteArray) ++ strOf (encs (List.drop 0 (List.take 1 x0))))).size + (strOf [[PV.int IntKind.u8 x2]]).size ≤ 4611686018427387904) = true := by
    rw [hs, strOf_size]
    exact decide_eq_true (show (encs x0).length + 1 ≤ 4611686018427387904 by omega)
  have c11 : decide (((({ data := #[] } : ByteArray) ++ strOf (encs (List.drop 0 (List.take 1 x0)))) ++ strOf [[PV.int IntKind.u8 x2]]).size ≤ 900000) = true := by
    rw [ByteArray.size_append, hs, strOf_size]
    exact decide_eq_true (show (encs x0).length + 1 ≤ 900000 by omega)
  have fin : ∀ (_ : True), (x2 = 3 ∨ (1 ≤ x2 ∧ x2 < 3) ∨ x2 < 1 ∨ 3 < x2) := fun _ => by omega
  by_cases hw : w < (n : Int)
  · have dA : (dec18 (((({ data := #[] } : ByteArray) ++ strOf (encs (List.drop 0 (List.take 1 x0))))).extract ((0 : Nat) : Int).toNat ((IntKind.i64.wrap x1).tmod (IntKind.i64.wrap ((((({ data := #[] } : ByteArray) ++ strOf (encs (List.drop 0 (List.take 1 x0))))).size : Int) + 1))).toNat)) = ([], w, 94) := by rw [hX]; exact gA hw
    have c3 : decide (w < (IntKind.i64.wrap x1).tmod (IntKind.i64.wrap ((((({ data := #[] } : ByteArray) ++ strOf (encs (List.drop 0 (List.take 1 x0))))).size : Int) + 1))) = true := by rw [hT]; exact decide_eq_true hw
    have c4 : decide ((((dec18 (((({ data := #[] } : ByteArray) ++ strOf (encs (List.drop 0 (List.take 1 x0))))).extract ((0 : Nat) : Int).toNat ((IntKind.i64.wrap x1).tmod (IntKind.i64.wrap ((((({ data := #[] } : ByteArray) ++ strOf (encs (List.drop 0 (List.take 1 x0))))).size : Int) + 1))).toNat))).1.length : Int) > 0) = false := by rw [dA]; rfl
    have c5 : (((dec18 (((({ data := #[] } : ByteArray) ++ strOf (encs (List.drop 0 (List.take 1 x0))))).extract ((0 : Nat) : Int).toNat ((IntKind.i64.wrap x1).tmod (IntKind.i64.wrap ((((({ data := #[] } : ByteArray) ++ strOf (encs (List.drop 0 (List.take 1 x0))))).size : Int) + 1))).toNat))).2.1 != w) = false := by rw [dA]; exact bne_self_eq_false w
    have c6 : (((dec18 (((({ data := #[] } : ByteArray) ++ strOf (encs (List.drop 0 (List.take 1 x0))))).extract ((0 : Nat) : Int).toNat ((IntKind.i64.wrap x1).tmod (IntKind.i64.wrap ((((({ data := #[] } : ByteArray) ++ strOf (encs (List.drop 0 (List.take 1 x0))))).size : Int) + 1))).toNat))).2.2 != 94) = false := by rw [dA]; rfl
    have c7 : (w == (IntKind.i64.wrap x1).tmod (IntKind.i64.wrap ((((({ data := #[] } : ByteArray) ++ strOf (encs (List.drop 0 (List.take 1 x0))))).size : Int) + 1))) = false := by rw [hT]; exact beq_eq_false_iff_ne.2 (by omega)
    rcases fin trivial with h | ⟨h, h'⟩ | h | h
    · obtain ⟨out, d1, d2⟩ := m3 h
      have c12 : decide (x2 ≥ 1) = true := decide_eq_true (by omega)
      have c13 : decide (x2 ≤ 3) = true := decide_eq_true (by omega)
      have c14 : (x2 == 3) = true := by rw [h]; rfl
      have c15 : (((dec18 ((({ data := #[] } : ByteArray) ++ strOf (encs (List.drop 0 (List.take 1 x0)))) ++ strOf [[PV.int IntKind.u8 x2]]))).2.2 == 0) = true := by rw [d1]; rfl
      have c16 : ((((dec18 ((({ data := #[] } : ByteArray) ++ strOf (encs (List.drop 0 (List.take 1 x0)))) ++ strOf [[PV.int IntKind.u8 x2]]))).1.length : Int) == IntKind.i64.wrap ((x0.length : Int) + 1)) = true := by
        rw [d1, wrap_next (by omega)]
        show ((out.length : Int) == _) = true
        rw [d2]
        exact beq_self_eq_true _
      exact bif_true c1 (bif_true c2 (bif_true c3 (bif_false c4 (bif_false c5 (bif_false c6 (bif_false c7 (bif_true c10 (bif_true c11 (bif_true c12 (bif_true c13 (bif_true c14 (bif_true c15 (bif_true c16 (rfl))))))))))))))
    · have d1 := m2 h h'
      have c12 : decide (x2 ≥ 1) = true := decide_eq_true (by omega)
      have c13 : decide (x2 ≤ 3) = true := decide_eq_true (by omega)
      have c14 : (x2 == 3) = false := beq_eq_false_iff_ne.2 (by omega)
      have c17 : (x2 != 3) = true := bne_iff_ne.2 (by omega)
      have c18 : (((dec18 ((({ data := #[] } : ByteArray) ++ strOf (encs (List.drop 0 (List.take 1 x0)))) ++ strOf [[PV.int IntKind.u8 x2]]))).2.2 == 94) = true := by rw [d1]; rfl
      have c20 : (((dec18 ((({ data := #[] } : ByteArray) ++ strOf (encs (List.drop 0 (List.take 1 x0)))) ++ strOf [[PV.int IntKind.u8 x2]]))).2.1 == (((({ data := #[] } : ByteArray) ++ strOf (encs (List.drop 0 (List.take 1 x0))))).size : Int)) = true := by rw [d1]; exact beq_self_eq_true _
      exact bif_true c1 (bif_true c2 (bif_true c3 (bif_false c4 (bif_false c5 (bif_false c6 (bif_false c7 (bif_true c10 (bif_true c11 (bif_true c12 (bif_true c13 (bif_false c14 (bif_true c17 (bif_true c18 ((congrArg (fun b => some (f8o.r0 b)) c20)))))))))))))))
    · have d1 := m1 (.inl h)
      have c12 : decide (x2 ≥ 1) = false := decide_eq_false (by omega)
      have c19 : ((((dec18 ((({ data := #[] } : ByteArray) ++ strOf (encs (List.drop 0 (List.take 1 x0)))) ++ strOf [[PV.int IntKind.u8 x2]]))).1.length : Int) == 0) = true := by rw [d1]; rfl
      have c20 : (((dec18 ((({ data := #[] } : ByteArray) ++ strOf (encs (List.drop 0 (List.take 1 x0)))) ++ strOf [[PV.int IntKind.u8 x2]]))).2.1 == (((({ data := #[] } : ByteArray) ++ strOf (encs (List.drop 0 (List.take 1 x0))))).size : Int)) = true := by rw [d1]; exact beq_self_eq_true _
      have c21 : (((dec18 ((({ data := #[] } : ByteArray) ++ strOf (encs (List.drop 0 (List.take 1 x0)))) ++ strOf [[PV.int IntKind.u8 x2]]))).2.2 == 90) = true := by rw [d1]; rfl
      exact bif_true c1 (bif_true c2 (bif_true c3 (bif_false c4 (bif_false c5 (bif_false c6 (bif_false c7 (bif_true c10 (bif_true c11 (bif_false c12 (bif_true c19 (bif_true c20 ((congrArg (fun b => some (f8o.r0 b)) c21)))))))))))))
    · have d1 := m1 (.inr h)
      have c12 : decide (x2 ≥ 1) = true := decide_eq_true (by omega)
      have c13 : decide (x2 ≤ 3) = false := decide_eq_false (by omega)
      have c19 : ((((dec18 ((({ data := #[] } : ByteArray) ++ strOf (encs (List.drop 0 (List.take 1 x0)))) ++ strOf [[PV.int IntKind.u8 x2]]))).1.length : Int) == 0) = true := by rw [d1]; rfl
      have c20 : (((dec18 ((({ data := #[] } : ByteArray) ++ strOf (encs (List.drop 0 (List.take 1 x0)))) ++ strOf [[PV.int IntKind.u8 x2]]))).2.1 == (((({ data := #[] } : ByteArray) ++ strOf (encs (List.drop 0 (List.take 1 x0))))).size : Int)) = true := by rw [d1]; exact beq_self_eq_true _
      have c21 : (((dec18 ((({ data := #[] } : ByteArray) ++ strOf (encs (List.drop 0 (List.take 1 x0)))) ++ strOf [[PV.int IntKind.u8 x2]]))).2.2 == 90) = true := by rw [d1]; rfl
      exact bif_true c1 (bif_true c2 (bif_true c3 (bif_false c4 (bif_false c5 (bif_false c6 (bif_false c7 (bif_true c10 (bif_true c11 (bif_true c12 (bif_false c13 (bif_true c19 (bif_true c20 ((congrArg (fun b => some (f8o.r0 b)) c21))))))))))))))
  · have he : w = (n : Int) := by omega
    obtain ⟨ob, hob⟩ := gB he
    have dB : (dec18 (((({ data := #[] } : ByteArray) ++ strOf (encs (List.drop 0 (List.take 1 x0))))).extract ((0 : Nat) : Int).toNat ((IntKind.i64.wrap x1).tmod (IntKind.i64.wrap ((((({ data := #[] } : ByteArray) ++ strOf (encs (List.drop 0 (List.take 1 x0))))).size : Int) + 1))).toNat)) = (ob, 0, 0) := by rw [hX]; exact hob
    have c3 : decide (w < (IntKind.i64.wrap x1).tmod (IntKind.i64.wrap ((((({ data := #[] } : ByteArray) ++ strOf (encs (List.drop 0 (List.take 1 x0))))).size : Int) + 1))) = false := by rw [hT]; exact decide_eq_false hw
    have c7 : (w == (IntKind.i64.wrap x1).tmod (IntKind.i64.wrap ((((({ data := #[] } : ByteArray) ++ strOf (encs (List.drop 0 (List.take 1 x0))))).size : Int) + 1))) = true := by rw [hT, he]; exact beq_self_eq_true _
    have c8 : (((dec18 (((({ data := #[] } : ByteArray) ++ strOf (encs (List.drop 0 (List.take 1 x0))))).extract ((0 : Nat) : Int).toNat ((IntKind.i64.wrap x1).tmod (IntKind.i64.wrap ((((({ data := #[] } : ByteArray) ++ strOf (encs (List.drop 0 (List.take 1 x0))))).size : Int) + 1))).toNat))).2.2 != 0) = false := by rw [dB]; rfl
    have c9 : (((dec18 (((({ data := #[] } : ByteArray) ++ strOf (encs (List.drop 0 (List.take 1 x0))))).extract ((0 : Nat) : Int).toNat ((IntKind.i64.wrap x1).tmod (IntKind.i64.wrap ((((({ data := #[] } : ByteArray) ++ strOf (encs (List.drop 0 (List.take 1 x0))))).size : Int) + 1))).toNat))).2.1 != 0) = false := by rw [dB]; rfl
    rcases fin trivial with h | ⟨h, h'⟩ | h | h
    · obtain ⟨out, d1, d2⟩ := m3 h
      have c12 : decide (x2 ≥ 1) = true := decide_eq_true (by omega)
      have c13 : decide (x2 ≤ 3) = true := decide_eq_true (by omega)
      have c14 : (x2 == 3) = true := by rw [h]; rfl
      have c15 : (((dec18 ((({ data := #[] } : ByteArray) ++ strOf (encs (List.drop 0 (List.take 1 x0)))) ++ strOf [[PV.int IntKind.u8 x2]]))).2.2 == 0) = true := by rw [d1]; rfl
      have c16 : ((((dec18 ((({ data := #[] } : ByteArray) ++ strOf (encs (List.drop 0 (List.take 1 x0)))) ++ strOf [[PV.int IntKind.u8 x2]]))).1.length : Int) == IntKind.i64.wrap ((x0.length : Int) + 1)) = true := by
        rw [d1, wrap_next (by omega)]
        show ((out.length : Int) == _) = true
        rw [d2]
        exact beq_self_eq_true _
      exact bif_true c1 (bif_true c2 (bif_false c3 (bif_true c7 (bif_false c8 (bif_false c9 (bif_true c10 (bif_true c11 (bif_true c12 (bif_true c13 (bif_true c14 (bif_true c15 (bif_true c16 (rfl)))))))))))))
    · have d1 := m2 h h'
      have c12 : decide (x2 ≥ 1) = true := decide_eq_true (by omega)
      have c13 : decide (x2 ≤ 3) = true := decide_eq_true (by omega)
      have c14 : (x2 == 3) = false := beq_eq_false_iff_ne.2 (by omega)
      have c17 : (x2 != 3) = true := bne_iff_ne.2 (by omega)
      have c18 : (((dec18 ((({ data := #[] } : ByteArray) ++ strOf (encs (List.drop 0 (List.take 1 x0)))) ++ strOf [[PV.int IntKind.u8 x2]]))).2.2 == 94) = true := by rw [d1]; rfl
      have c20 : (((dec18 ((({ data := #[] } : ByteArray) ++ strOf (encs (List.drop 0 (List.take 1 x0)))) ++ strOf [[PV.int IntKind.u8 x2]]))).2.1 == (((({ data := #[] } : ByteArray) ++ strOf (encs (List.drop 0 (List.take 1 x0))))).size : Int)) = true := by rw [d1]; exact beq_self_eq_true _
      exact bif_true c1 (bif_true c2 (bif_false c3 (bif_true c7 (bif_false c8 (bif_false c9 (bif_true c10 (bif_true c11 (bif_true c12 (bif_true c13 (bif_false c14 (bif_true c17 (bif_true c18 ((congrArg (fun b => some (f8o.r0 b)) c20))))))))))))))
    · have d1 := m1 (.inl h)
      have c12 : decide (x2 ≥ 1) = false := decide_eq_false (by omega)
      have c19 : ((((dec18 ((({ data := #[] } : ByteArray) ++ strOf (encs (List.drop 0 (List.take 1 x0)))) ++ strOf [[PV.int IntKind.u8 x2]]))).1.length : Int) == 0) = true := by rw [d1]; rfl
      have c20 : (((dec18 ((({ data := #[] } : ByteArray) ++ strOf (encs (List.drop 0 (List.take 1 x0)))) ++ strOf [[PV.int IntKind.u8 x2]]))).2.1 == (((({ data := #[] } : ByteArray) ++ strOf (encs (List.drop 0 (List.take 1 x0))))).size : Int)) = true := by rw [d1]; exact beq_self_eq_true _
      have c21 : (((dec18 ((({ data := #[] } : ByteArray) ++ strOf (encs (List.drop 0 (List.take 1 x0)))) ++ strOf [[PV.int IntKind.u8 x2]]))).2.2 == 90) = true := by rw [d1]; rfl
      exact bif_true c1 (bif_true c2 (bif_false c3 (bif_true c7 (bif_false c8 (bif_false c9 (bif_true c10 (bif_true c11 (bif_false c12 (bif_true c19 (bif_true c20 ((congrArg (fun b => some (f8o.r0 b)) c21))))))))))))
    · have d1 := m1 (.inr h)
      have c12 : decide (x2 ≥ 1) = true := decide_eq_true (by omega)
      have c13 : decide (x2 ≤ 3) = false := decide_eq_false (by omega)
      have c19 : ((((dec18 ((({ data := #[] } : ByteArray) ++ strOf (encs (List.drop 0 (List.take 1 x0)))) ++ strOf [[PV.int IntKind.u8 x2]]))).1.length : Int) == 0) = true := by rw [d1]; rfl
      have c20 : (((dec18 ((({ data := #[] } : ByteArray) ++ strOf (encs (List.drop 0 (List.take 1 x0)))) ++ strOf [[PV.int IntKind.u8 x2]]))).2.1 == (((({ data := #[] } : ByteArray) ++ strOf (encs (List.drop 0 (List.take 1 x0))))).size : Int)) = true := by rw [d1]; exact beq_self_eq_true _
      have c21 : (((dec18 ((({ data := #[] } : ByteArray) ++ strOf (encs (List.drop 0 (List.take 1 x0)))) ++ strOf [[PV.int IntKind.u8 x2]]))).2.2 == 90) = true := by rw [d1]; rfl
      exact bif_true c1 (bif_true c2 (bif_false c3 (bif_true c7 (bif_false c8 (bif_false c9 (bif_true c10 (bif_true c11 (bif_true c12 (bif_false c13 (bif_true c19 (bif_true c20 ((congrArg (fun b => some (f8o.r0 b)) c21)))))))))))))
set_option maxHeartbeats 4000000 in
theorem tail3 {N : Nat} {x0 : List (List PV)} {x1 x2 : Int} {W : ByteArray} {ends : List (List PV)} (hk : Kinds x0) (hl : x0.length ≤ 60) (r2 : 0 ≤ x2 ∧ x2 ≤ 255) (hW : W = strOf (encs x0)) {n : Nat} (hT : (IntKind.i64.wrap x1).tmod (IntKind.i64.wrap (((W).size : Int) + 1)) = (n : Int)) (hn : n ≤ (encs x0).length) : f8c275 N x0 x1 x2 W ends (begF x0 (n : Int) (x0.length + 1)) = some ⟨true⟩ := by
  obtain ⟨gA, gB, gC⟩ := cut_at hk hn
  have hsm := small_encs hl
  generalize begF x0 (n : Int) (x0.length + 1) = w at gA gB gC ⊢
  have hs : (W).size = (encs x0).length := by rw [hW, strOf_size]
  have hX : (W).extract ((0 : Nat) : Int).toNat ((IntKind.i64.wrap x1).tmod (IntKind.i64.wrap (((W).size : Int) + 1))).toNat = strOf ((encs x0).take n) := by
    rw [hT]
    show (W).extract 0 n = _
    rw [hW, cut_extract]
  have hY : W ++ strOf [[PV.int IntKind.u8 x2]] = strOf (encs x0) ++ strOf [[PV.int IntKind.u8 x2]] := by rw [hW]
  obtain ⟨m3, m2, m1⟩ := cut_more hk r2.1 r2.2
  have hz : ((W).size : Int) = ((strOf (encs x0)).size : Int) := by rw [hW]
  rw [← hz] at m2 m1
  rw [← hY] at m3 m2 m1
  have c1 : (decide ((0 : Int) ≤ ((0 : Nat) : Int)) && decide (((0 : Nat) : Int) ≤ (IntKind.i64.wrap x1).tmod (IntKind.i64.wrap (((W).size : Int) + 1))) && decide ((IntKind.i64.wrap x1).tmod (IntKind.i64.wrap (((W).size : Int) + 1)) ≤ ((W).size : Int))) = true := by
    rw [hT, decide_eq_true (show (0 : Int) ≤ ((0 : Nat) : Int) by omega), decide_eq_true (show ((0 : Nat) : Int) ≤ (n : Int) by omega), decide_eq_true (show (n : Int) ≤ ((W).size : Int) by omega)]
    rfl
  have c2 : decide (((W).extract ((0 : Nat) : Int).toNat ((IntKind.i64.wrap x1).tmod (IntKind.i64.wrap (((W).size : Int) + 1))).toNat).size ≤ 900000) = true := by
    rw [hX, strOf_size, List.length_take]
    exact decide_eq_true (by omega)
  have c10 : decide ((W).size + (strOf [[PV.int IntKind.u8 x2]]).size ≤ 4611686018427387904) = true := by
    rw [hs, strOf_size]
    exact decide_eq_true (show (encs x0).length + 1 ≤ 4611686018427387904 by omega)
  have c11 : decide ((W ++ strOf [[PV.int IntKind.u8 x2]]).size ≤ 900000) = true := by
    rw [ByteArray.size_append, hs, strOf_size]
    exact decide_eq_true (show (encs x0).length + 1 ≤ 900000 by omega)
  have fin : ∀ (_ : True), (x2 = 3 ∨ (1 ≤ x2 ∧ x2 < 3) ∨ x2 < 1 ∨ 3 < x2) := fun _ => by omega
  by_cases hw : w < (n : Int)
  · have dA : (dec18 ((W).extract ((0 : Nat) : Int).toNat ((IntKind.i64.wrap x1).tmod (IntKind.i64.wrap (((W).size : Int) + 1))).toNat)) = ([], w, 94) := by rw [hX]; exact gA hw
    have c3 : decide (w < (IntKind.i64.wrap x1).tmod (IntKind.i64.wrap (((W).size : Int) + 1))) = true := by rw [hT]; exact decide_eq_true hw
    have c4 : decide ((((dec18 ((W).extract ((0 : Nat) : Int).toNat ((IntKind.i64.wrap x1).tmod (IntKind.i64.wrap (((W).size : Int) + 1))).toNat))).1.length : Int) > 0) = false := by rw [dA]; rfl
    have c5 : (((dec18 ((W).extract ((0 : Nat) : Int).toNat ((IntKind.i64.wrap x1).tmod (IntKind.i64.wrap (((W).size : Int) + 1))).toNat))).2.1 != w) = false := by rw [dA]; exact bne_self_eq_false w
    have c6 : (((dec18 ((W).extract ((0 : Nat) : Int).toNat ((IntKind.i64.wrap x1).tmod (IntKind.i64.wrap (((W).size : Int) + 1))).toNat))).2.2 != 94) = false := by rw [dA]; rfl
    have c7 : (w == (IntKind.i64.wrap x1).tmod (IntKind.i64.wrap (((W).size : Int) + 1))) = false := by rw [hT]; exact beq_eq_false_iff_ne.2 (by omega)
    rcases fin trivial with h | ⟨h, h'⟩ | h | h
    · obtain ⟨out, d1, d2⟩ := m3 h
      have c12 : decide (x2 ≥ 1) = true := decide_eq_true (by omega)
      have c13 : decide (x2 ≤ 3) = true := decide_eq_true (by omega)
      have c14 : (x2 == 3) = true := by rw [h]; rfl
      have c15 : (((dec18 (W ++ strOf [[PV.int IntKind.u8 x2]]))).2.2 == 0) = true := by rw [d1]; rfl
      have c16 : ((((dec18 (W ++ strOf [[PV.int IntKind.u8 x2]]))).1.length : Int) == IntKind.i64.wrap ((x0.length : Int) + 1)) = true := by
        rw [d1, wrap_next (by omega)]
        show ((out.length : Int) == _) = true
        rw [d2]
        exact beq_self_eq_true _
      exact bif_true c1 (bif_true c2 (bif_true c3 (bif_false c4 (bif_false c5 (bif_false c6 (bif_false c7 (bif_true c10 (bif_true c11 (bif_true c12 (bif_true c13 (bif_true c14 (bif_true c15 (bif_true c16 (rfl))))))))))))))
    · have d1 := m2 h h'
      have c12 : decide (x2 ≥ 1) = true := decide_eq_true (by omega)
      have c13 : decide (x2 ≤ 3) = true := decide_eq_true (by omega)
      have c14 : (x2 == 3) = false := beq_eq_false_iff_ne.2 (by omega)
      have c17 : (x2 != 3) = true := bne_iff_ne.2 (by omega)
      have c18 : (((dec18 (W ++ strOf [[PV.int IntKind.u8 x2]]))).2.2 == 94) = true := by rw [d1]; rfl
      have c20 : (((dec18 (W ++ strOf [[PV.int IntKind.u8 x2]]))).2.1 == ((W).size : Int)) = true := by rw [d1]; exact beq_self_eq_true _
      exact bif_true c1 (bif_true c2 (bif_true c3 (bif_false c4 (bif_false c5 (bif_false c6 (bif_false c7 (bif_true c10 (bif_true c11 (bif_true c12 (bif_true c13 (bif_false c14 (bif_true c17 (bif_true c18 ((congrArg (fun b => some (f8o.r0 b)) c20)))))))))))))))
    · have d1 := m1 (.inl h)
      have c12 : decide (x2 ≥ 1) = false := decide_eq_false (by omega)
      have c19 : ((((dec18 (W ++ strOf [[PV.int IntKind.u8 x2]]))).1.length : Int) == 0) = true := by rw [d1]; rfl
      have c20 : (((dec18 (W ++ strOf [[PV.int IntKind.u8 x2]]))).2.1 == ((W).size : Int)) = true := by rw [d1]; exact beq_self_eq_true _
      have c21 : (((dec18 (W ++ strOf [[PV.int IntKind.u8 x2]]))).2.2 == 90) = true := by rw [d1]; rfl
      exact bif_true c1 (bif_true c2 (bif_true c3 (bif_false c4 (bif_false c5 (bif_false c6 (bif_false c7 (bif_true c10 (bif_true c11 (bif_false c12 (bif_true c19 (bif_true c20 ((congrArg (fun b => some (f8o.r0 b)) c21)))))))))))))
    · have d1 := m1 (.inr h)
      have c12 : decide (x2 ≥ 1) = true := decide_eq_true (by omega)
      have c13 : decide (x2 ≤ 3) = false := decide_eq_false (by omega)
      have c19 : ((((dec18 (W ++ strOf [[PV.int IntKind.u8 x2]]))).1.length : Int) == 0) = true := by rw [d1]; rfl
      have c20 : (((dec18 (W ++ strOf [[PV.int IntKind.u8 x2]]))).2.1 == ((W).size : Int)) = true := by rw [d1]; exact beq_self_eq_true _
      have c21 : (((dec18 (W ++ strOf [[PV.int IntKind.u8 x2]]))).2.2 == 90) = true := by rw [d1]; rfl
      exact bif_true c1 (bif_true c2 (bif_true c3 (bif_false c4 (bif_false c5 (bif_false c6 (bif_false c7 (bif_true c10 (bif_true c11 (bif_true c12 (bif_false c13 (bif_true c19 (bif_true c20 ((congrArg (fun b => some (f8o.r0 b)) c21))))))))))))))
  · have he : w = (n : Int) := by omega
    obtain ⟨ob, hob⟩ := gB he
    have dB : (dec18 ((W).extract ((0 : Nat) : Int).toNat ((IntKind.i64.wrap x1).tmod (IntKind.i64.wrap (((W).size : Int) + 1))).toNat)) = (ob, 0, 0) := by rw [hX]; exact hob
    have c3 : decide (w < (IntKind.i64.wrap x1).tmod (IntKind.i64.wrap (((W).size : Int) + 1))) = false := by rw [hT]; exact decide_eq_false hw
    have c7 : (w == (IntKind.i64.wrap x1).tmod (IntKind.i64.wrap (((W).size : Int) + 1))) = true := by rw [hT, he]; exact beq_self_eq_true _
    have c8 : (((dec18 ((W).extract ((0 : Nat) : Int).toNat ((IntKind.i64.wrap x1).tmod (IntKind.i64.wrap (((W).size : Int) + 1))).toNat))).2.2 != 0) = false := by rw [dB]; rfl
    have c9 : (((dec18 ((W).extract ((0 : Nat) : Int).toNat ((IntKind.i64.wrap x1).tmod (IntKind.i64.wrap (((W).size : Int) + 1))).toNat))).2.1 != 0) = false := by rw [dB]; rfl
    rcases fin trivial with h | ⟨h, h'⟩ | h | h
    · obtain ⟨out, d1, d2⟩ := m3 h
      have c12 : decide (x2 ≥ 1) = true := decide_eq_true (by omega)
      have c13 : decide (x2 ≤ 3) = true := decide_eq_true (by omega)
      have c14 : (x2 == 3) = true := by rw [h]; rfl
      have c15 : (((dec18 (W ++ strOf [[PV.int IntKind.u8 x2]]))).2.2 == 0) = true := by rw [d1]; rfl
      have c16 : ((((dec18 (W ++ strOf [[PV.int IntKind.u8 x2]]))).1.length : Int) == IntKind.i64.wrap ((x0.length : Int) + 1)) = true := by
        rw [d1, wrap_next (by omega)]
        show ((out.length : Int) == _) = true
        rw [d2]
        exact beq_self_eq_true _
      exact bif_true c1 (bif_true c2 (bif_false c3 (bif_true c7 (bif_false c8 (bif_false c9 (bif_true c10 (bif_true c11 (bif_true c12 (bif_true c13 (bif_true c14 (bif_true c15 (bif_true c16 (rfl)))))))))))))
    · have d1 := m2 h h'
      have c12 : decide (x2 ≥ 1) = true := decide_eq_true (by omega)
      have c13 : decide (x2 ≤ 3) = true := decide_eq_true (by omega)
      have c14 : (x2 == 3) = false := beq_eq_false_iff_ne.2 (by omega)
      have c17 : (x2 != 3) = true := bne_iff_ne.2 (by omega)
      have c18 : (((dec18 (W ++ strOf [[PV.int IntKind.u8 x2]]))).2.2 == 94) = true := by rw [d1]; rfl
      have c20 : (((dec18 (W ++ strOf [[PV.int IntKind.u8 x2]]))).2.1 == ((W).size : Int)) = true := by rw [d1]; exact beq_self_eq_true _
      exact bif_true c1 (bif_true c2 (bif_false c3 (bif_true c7 (bif_false c8 (bif_false c9 (bif_true c10 (bif_true c11 (bif_true c12 (bif_true c13 (bif_false c14 (bif_true c17 (bif_true c18 ((congrArg (fun b => some (f8o.r0 b)) c20))))))))))))))
    · have d1 := m1 (.inl h)
      have c12 : decide (x2 ≥ 1) = false := decide_eq_false (by omega)
      have c19 : ((((dec18 (W ++ strOf [[PV.int IntKind.u8 x2]]))).1.length : Int) == 0) = true := by rw [d1]; rfl
      have c20 : (((dec18 (W ++ strOf [[PV.int IntKind.u8 x2]]))).2.1 == ((W).size : Int)) = true := by rw [d1]; exact beq_self_eq_true _
      have c21 : (((dec18 (W ++ strOf [[PV.int IntKind.u8 x2]]))).2.2 == 90) = true := by rw [d1]; rfl
      exact bif_true c1 (bif_true c2 (bif_false c3 (bif_true c7 (bif_false c8 (bif_false c9 (bif_true c10 (bif_true c11 (bif_false c12 (bif_true c19 (bif_true c20 ((congrArg (fun b => some (f8o.r0 b)) c21))))))))))))
    · have d1 := m1 (.inr h)
      have c12 : decide (x2 ≥ 1) = true := decide_eq_true (by omega)
      have c13 : decide (x2 ≤ 3) = false := decide_eq_false (by omega)
      have c19 : ((((dec18 (W ++ strOf [[PV.int IntKind.u8 x2]]))).1.length : Int) == 0) = true := by rw [d1]; rfl
      have c20 : (((dec18 (W ++ strOf [[PV.int IntKind.u8 x2]]))).2.1 == ((W).size : Int)) = true := by rw [d1]; exact beq_self_eq_true _
      have c21 : (((dec18 (W ++ strOf [[PV.int IntKind.u8 x2]]))).2.2 == 90) = true := by rw [d1]; rfl
      exact bif_true c1 (bif_true c2 (bif_false c3 (bif_true c7 (bif_false c8 (bif_false c9 (bif_true c10 (bif_true c11 (bif_true c12 (bif_false c13 (bif_true c19 (bif_true c20 ((congrArg (fun b => some (f8o.r0 b)) c21)))))))))))))
theorem ends1 {N : Nat} {x0 : List (List PV)} {x1 x2 : Int} (hl : x0.length ≤ 60) (hE : [[PV.int IntKind.i64 0]] = endsL x0 (x0.length + 1)) {n : Nat} (hT : (IntKind.i64.wrap x1).tmod (IntKind.i64.wrap (((({ data := #[] } : ByteArray)).size : Int) + 1)) = (n : Int)) : ∀ (f m : Nat), m + f = x0.length + 1 → loopN (f8L48r N x0 x1 x2) (f + 1) (.s0 (begF x0 (n : Int) m) (m : Int)) = some (.e0 (begF x0 (n : Int) (x0.length + 1)))
  | 0, m, e => by
    obtain rfl : m = x0.length + 1 := by omega
    have hlen : ([[PV.int IntKind.i64 0]]).length = x0.length + 1 := by rw [hE, endsL_len]
    have c1 : decide (((x0.length + 1 : Nat) : Int) < (([[PV.int IntKind.i64 0]]).length : Int)) = false := by rw [hlen]; exact decide_eq_false (by omega)
    exact loopN_end rfl
  | f + 1, m, e => by
    have hlen : ([[PV.int IntKind.i64 0]]).length = x0.length + 1 := by rw [hE, endsL_len]
    have c1 : decide ((m : Int) < (([[PV.int IntKind.i64 0]]).length : Int)) = true := by rw [hlen]; exact decide_eq_true (by omega)
    have c2 : (decide ((0 : Int) ≤ (m : Int)) && decide ((m : Int) < (([[PV.int IntKind.i64 0]]).length : Int))) = true := by
      rw [c1, decide_eq_true (show (0 : Int) ≤ (m : Int) by omega)]
      rfl
    have hg : pInt ((([[PV.int IntKind.i64 0]]).getD (m : Int).toNat []).headD PV.undef) = (endL x0 m : Int) := by
      show pInt ((([[PV.int IntKind.i64 0]]).getD m []).headD PV.undef) = _
      rw [hE]
      exact endsL_get (by omega)
    have hr : f8L48r N x0 x1 x2 (.s0 (begF x0 (n : Int) m) (m : Int)) = some (.inl (.s0 (begF x0 (n : Int) (m + 1)) ((m + 1 : Nat) : Int))) := by
      unfold begF
      by_cases q : (endL x0 m : Int) ≤ (n : Int)
      · rw [if_pos q]
        have c3 : decide (pInt ((([[PV.int IntKind.i64 0]]).getD (m : Int).toNat []).headD PV.undef) ≤ (IntKind.i64.wrap x1).tmod (IntKind.i64.wrap (((({ data := #[] } : ByteArray)).size : Int) + 1))) = true := by rw [hg, hT]; exact decide_eq_true q
        refine bif_true c1 (bif_true c2 (bif_true c3 (bif_true c2 ?_)))
        show some (Sum.inl (f8L48s.s0 (pInt ((([[PV.int IntKind.i64 0]]).getD (m : Int).toNat []).headD PV.undef)) (IntKind.i64.wrap ((m : Int) + 1)))) = _
        rw [hg, wrap_next (i := m) (by omega)]
      · rw [if_neg q]
        have c3 : decide (pInt ((([[PV.int IntKind.i64 0]]).getD (m : Int).toNat []).headD PV.undef) ≤ (IntKind.i64.wrap x1).tmod (IntKind.i64.wrap (((({ data := #[] } : ByteArray)).size : Int) + 1))) = false := by rw [hg, hT]; exact decide_eq_false q
        refine bif_true c1 (bif_true c2 (bif_false c3 ?_))
        show some (Sum.inl (f8L48s.s0 _ (IntKind.i64.wrap ((m : Int) + 1)))) = _
        rw [wrap_next (i := m) (by omega)]
        cases m <;> rfl
    rw [loopN_next hr]
    exact ends1 hl hE hT f (m + 1) (by omega)
theorem ends2 {N : Nat} {x0 : List (List PV)} {x1 x2 : Int} (hl : x0.length ≤ 60) (hE : [[PV.int IntKind.i64 0], [PV.int IntKind.i64 ((({ data := #[] } : ByteArray) ++ strOf (encs (List.drop 0 (List.take 1 x0)))).size : Int)]] = endsL x0 (x0.length + 1)) {n : Nat} (hT : (IntKind.i64.wrap x1).tmod (IntKind.i64.wrap ((((({ data := #[] } : ByteArray) ++ strOf (encs (List.drop 0 (List.take 1 x0))))).size : Int) + 1)) = (n : Int)) : ∀ (f m : Nat), m + f = x0.length + 1 → loopN (f8L138r N x0 x1 x2) (f + 1) (.s0 (begF x0 (n : Int) m) (m : Int)) = some (.e0 (begF x0 (n : Int) (x0.length + 1)))
  | 0, m, e => by
    obtain rfl : m = x0.length + 1 := by omega
    have hlen : ([[PV.int IntKind.i64 0], [PV.int IntKind.i64 ((({ data := #[] } : ByteArray) ++ strOf (encs (List.drop 0 (List.take 1 x0)))).size : Int)]]).length = x0.length + 1 := by rw [hE, endsL_len]
    have c1 : decide (((x0.length + 1 : Nat) : Int) < (([[PV.int IntKind.i64 0], [PV.int IntKind.i64 ((({ data := #[] } : ByteArray) ++ strOf (encs (List.drop 0 (List.take 1 x0)))).size : Int)]]).length : Int)) = false := by rw [hlen]; exact decide_eq_false (by omega)
    exact loopN_end (bif_false c1 rfl)
  | f + 1, m, e => by
    have hlen : ([[PV.int IntKind.i64 0], [PV.int IntKind.i64 ((({ data := #[] } : ByteArray) ++ strOf (encs (List.drop 0 (List.take 1 x0)))).size : Int)]]).length = x0.length + 1 := by rw [hE, endsL_len]
    have c1 : decide ((m : Int) < (([[PV.int IntKind.i64 0], [PV.int IntKind.i64 ((({ data := #[] } : ByteArray) ++ strOf (encs (List.drop 0 (List.take 1 x0)))).size : Int)]]).length : Int)) = true := by rw [hlen]; exact decide_eq_true (by omega)
    have c2 : (decide ((0 : Int) ≤ (m : Int)) && decide ((m : Int) < (([[PV.int IntKind.i64 0], [PV.int IntKind.i64 ((({ data := #[] } : ByteArray) ++ strOf (encs (List.drop 0 (List.take 1 x0)))).size : Int)]]).length : Int))) = true := by
      rw [c1, decide_eq_true (show (0 : Int) ≤ (m : Int) by omega)]
      rfl
    have hg : pInt ((([[PV.int IntKind.i64 0], [PV.int IntKind.i64 ((({ data := #[] } : ByteArray) ++ strOf (encs (List.drop 0 (List.take 1 x0)))).size : Int)]]).getD (m : Int).toNat []).headD PV.undef) = (endL x0 m : Int) := by
      show pInt ((([[PV.int IntKind.i64 0], [PV.int IntKind.i64 ((({ data := #[] } : ByteArray) ++ strOf (encs (List.drop 0 (List.take 1 x0)))).size : Int)]]).getD m []).headD PV.undef) = _
      rw [hE]
      exact endsL_get (by omega)
    have hr : f8L138r N x0 x1 x2 (.s0 (begF x0 (n : Int) m) (m : Int)) = some (.inl (.s0 (begF x0 (n : Int) (m + 1)) ((m + 1 : Nat) : Int))) := by
      unfold begF
      by_cases q : (endL x0 m : Int) ≤ (n : Int)
      · rw [if_pos q]
        have c3 : decide (pInt ((([[PV.int IntKind.i64 0], [PV.int IntKind.i64 ((({ data := #[] } : ByteArray) ++ strOf (encs (List.drop 0 (List.take 1 x0)))).size : Int)]]).getD (m : Int).toNat []).headD PV.undef) ≤ (IntKind.i64.wrap x1).tmod (IntKind.i64.wrap ((((({ data := #[] } : ByteArray) ++ strOf (encs (List.drop 0 (List.take 1 x0))))).size : Int) + 1))) = true := by rw [hg, hT]; exact decide_eq_true q
        refine bif_true c1 (bif_true c2 (bif_true c3 (bif_true c2 ?_)))
        show some (Sum.inl (f8L138s.s0 (pInt ((([[PV.int IntKind.i64 0], [PV.int IntKind.i64 ((({ data := #[] } : ByteArray) ++ strOf (encs (List.drop 0 (List.take 1 x0)))).size : Int)]]).getD (m : Int).toNat []).headD PV.undef)) (IntKind.i64.wrap ((m : Int) + 1)))) = _
        rw [hg, wrap_next (i := m) (by omega)]
      · rw [if_neg q]
        have c3 : decide (pInt ((([[PV.int IntKind.i64 0], [PV.int IntKind.i64 ((({ data := #[] } : ByteArray) ++ strOf (encs (List.drop 0 (List.take 1 x0)))).size : Int)]]).getD (m : Int).toNat []).headD PV.undef) ≤ (IntKind.i64.wrap x1).tmod (IntKind.i64.wrap ((((({ data := #[] } : ByteArray) ++ strOf (encs (List.drop 0 (List.take 1 x0))))).size : Int) + 1))) = false := by rw [hg, hT]; exact decide_eq_false q
        refine bif_true c1 (bif_true c2 (bif_false c3 ?_))
        show some (Sum.inl (f8L138s.s0 _ (IntKind.i64.wrap ((m : Int) + 1)))) = _
        rw [wrap_next (i := m) (by omega)]
        cases m <;> rfl
    rw [loopN_next hr]
    exact ends2 hl hE hT f (m + 1) (by omega)
theorem ends3 {N : Nat} {x0 : List (List PV)} {x1 x2 : Int} {W : ByteArray} {ends : List (List PV)} (hl : x0.length ≤ 60) (hE : ends = endsL x0 (x0.length + 1)) {n : Nat} (hT : (IntKind.i64.wrap x1).tmod (IntKind.i64.wrap (((W).size : Int) + 1)) = (n : Int)) : ∀ (f m : Nat), m + f = x0.length + 1 → loopN (f8L260r N x0 x1 x2 W ends) (f + 1) (.s0 (begF x0 (n : Int) m) (m : Int)) = some (.e0 (begF x0 (n : Int) (x0.length + 1)))
  | 0, m, e => by
    obtain rfl : m = x0.length + 1 := by omega
    have hlen : (ends).length = x0.length + 1 := by rw [hE, endsL_len]
    have c1 : decide (((x0.length + 1 : Nat) : Int) < ((ends).length : Int)) = false := by rw [hlen]; exact decide_eq_false (by omega)
    exact loopN_end (bif_false c1 rfl)
  | f + 1, m, e => by
    have hlen : (ends).length = x0.length + 1 := by rw [hE, endsL_len]
    have c1 : decide ((m : Int) < ((ends).length : Int)) = true := by rw [hlen]; exact decide_eq_true (by omega)
    have c2 : (decide ((0 : Int) ≤ (m : Int)) && decide ((m : Int) < ((ends).length : Int))) = true := by
      rw [c1, decide_eq_true (show (0 : Int) ≤ (m : Int) by omega)]
      rfl
    have hg : pInt (((ends).getD (m : Int).toNat []).headD PV.undef) = (endL x0 m : Int) := by
      show pInt (((ends).getD m []).headD PV.undef) = _
      rw [hE]
      exact endsL_get (by omega)
    have hr : f8L260r N x0 x1 x2 W ends (.s0 (begF x0 (n : Int) m) (m : Int)) = some (.inl (.s0 (begF x0 (n : Int) (m + 1)) ((m + 1 : Nat) : Int))) := by
      unfold begF
      by_cases q : (endL x0 m : Int) ≤ (n : Int)
      · rw [if_pos q]
        have c3 : decide (pInt (((ends).getD (m : Int).toNat []).headD PV.undef) ≤ (IntKind.i64.wrap x1).tmod (IntKind.i64.wrap (((W).size : Int) + 1))) = true := by rw [hg, hT]; exact decide_eq_true q
        refine bif_true c1 (bif_true c2 (bif_true c3 (bif_true c2 ?_)))
        show some (Sum.inl (f8L260s.s0 (pInt (((ends).getD (m : Int).toNat []).headD PV.undef)) (IntKind.i64.wrap ((m : Int) + 1)))) = _
        rw [hg, wrap_next (i := m) (by omega)]
      · rw [if_neg q]
        have c3 : decide (pInt (((ends).getD (m : Int).toNat []).headD PV.undef) ≤ (IntKind.i64.wrap x1).tmod (IntKind.i64.wrap (((W).size : Int) + 1))) = false := by rw [hg, hT]; exact decide_eq_false q
        refine bif_true c1 (bif_true c2 (bif_false c3 ?_))
        show some (Sum.inl (f8L260s.s0 _ (IntKind.i64.wrap ((m : Int) + 1)))) = _
        rw [wrap_next (i := m) (by omega)]
        cases m <;> rfl
    rw [loopN_next hr]
    exact ends3 hl hE hT f (m + 1) (by omega)
noncomputable def back8 (N : Nat) (x0 : List (List PV)) (x1 : Int) (x2 : Int) : f8L1e → Option f8o
  | .e0  => Tr.run (.ret (.r0 (true)))
  | .e1  => ((loopN (f8L48r N x0 x1 x2) N (.s0 ((0 : Int)) ((0 : Int)))).bind (fun
    | .e0 w => (f8c65 N x0 x1 x2 w)))
  | .e2  => Tr.run (.ret (.r0 (true)))
  | .e3  => (f8c137 N x0 x1 x2)
  | .e4 _ _ => Tr.run (.ret (.r0 (true)))
  | .e5 a b => (f8c259 N x0 x1 x2 a b)
theorem f8_eq (N : Nat) (x0 : List (List PV)) (x1 : Int) (x2 : Int) (h : ¬ ((x0.length : Int) > 60)) : f8 N x0 x1 x2 = (loopN (f8L1r N x0 x1 x2) N .s0).bind (back8 N x0 x1 x2) := by
  refine bif_false (decide_eq_false h) ?_
  congr 1
theorem behind1 {N : Nat} {x0 : List (List PV)} {x1 x2 : Int} (hN : x0.length + 9 ≤ N) (hk : Kinds x0) (hl : x0.length ≤ 60) (q1 : 0 ≤ x1 ∧ x1 ≤ 65535) (q2 : 0 ≤ x2 ∧ x2 ≤ 255) (hW : ({ data := #[] } : ByteArray) = strOf (encs x0)) (hE : [[PV.int IntKind.i64 0]] = endsL x0 (x0.length + 1)) : back8 N x0 x1 x2 .e1 = some ⟨true⟩ := by
  have hsm := small_encs hl
  obtain ⟨n, hT, hn⟩ := place_at (W := ({ data := #[] } : ByteArray)) (m := (encs x0).length) (by rw [hW, strOf_size]) hsm q1.1 q1.2
  have h1 := ends1 (N := N) (x2 := x2) hl hE hT (x0.length + 1) 0 (by omega)
  have h2 := loopN_more _ _ _ h1 (N - (x0.length + 1 + 1))
  rw [show x0.length + 1 + 1 + (N - (x0.length + 1 + 1)) = N by omega] at h2
  show (loopN (f8L48r N x0 x1 x2) N (.s0 (begF x0 (n : Int) 0) ((0 : Nat) : Int))).bind _ = _
  rw [h2]
  exact tail1 hk hl q2 hW hT hn
theorem behind2 {N : Nat} {x0 : List (List PV)} {x1 x2 : Int} (hN : x0.length + 9 ≤ N) (hk : Kinds x0) (hl : x0.length ≤ 60) (q1 : 0 ≤ x1 ∧ x1 ≤ 65535) (q2 : 0 ≤ x2 ∧ x2 ≤ 255) (hW : (({ data := #[] } : ByteArray) ++ strOf (encs (List.drop 0 (List.take 1 x0)))) = strOf (encs x0)) (hE : [[PV.int IntKind.i64 0], [PV.int IntKind.i64 ((({ data := #[] } : ByteArray) ++ strOf (encs (List.drop 0 (List.take 1 x0)))).size : Int)]] = endsL x0 (x0.length + 1)) : back8 N x0 x1 x2 .e3 = some ⟨true⟩ := by
  have hsm := small_encs hl
  obtain ⟨n, hT, hn⟩ := place_at (W := (({ data := #[] } : ByteArray) ++ strOf (encs (List.drop 0 (List.take 1 x0))))) (m := (encs x0).length) (by rw [hW, strOf_size]) hsm q1.1 q1.2
  have h1 := ends2 (N := N) (x2 := x2) hl hE hT (x0.length + 1) 0 (by omega)
  have h2 := loopN_more _ _ _ h1 (N - (x0.length + 1 + 1))
  rw [show x0.length + 1 + 1 + (N - (x0.length + 1 + 1)) = N by omega] at h2
  have hs : ((({ data := #[] } : ByteArray) ++ strOf (encs (List.drop 0 (List.take 1 x0))))).size = (encs x0).length := by rw [hW, strOf_size]
  have c0 : decide (IntKind.i64.wrap ((((({ data := #[] } : ByteArray) ++ strOf (encs (List.drop 0 (List.take 1 x0))))).size : Int) + 1) ≠ 0) = true := by
    rw [show IntKind.i64.wrap ((((({ data := #[] } : ByteArray) ++ strOf (encs (List.drop 0 (List.take 1 x0))))).size : Int) + 1) = (((({ data := #[] } : ByteArray) ++ strOf (encs (List.drop 0 (List.take 1 x0))))).size : Int) + 1 from wrap_small (by omega) (by omega)]
    exact decide_eq_true (by omega)
  refine bif_true c0 ?_
  show (loopN (f8L138r N x0 x1 x2) N (.s0 (begF x0 (n : Int) 0) ((0 : Nat) : Int))).bind _ = _
  rw [h2]
  exact tail2 hk hl q2 hW hT hn
theorem behind3 {N : Nat} {x0 : List (List PV)} {x1 x2 : Int} {W : ByteArray} {ends : List (List PV)} (hN : x0.length + 9 ≤ N) (hk : Kinds x0) (hl : x0.length ≤ 60) (q1 : 0 ≤ x1 ∧ x1 ≤ 65535) (q2 : 0 ≤ x2 ∧ x2 ≤ 255) (hW : W = strOf (encs x0)) (hE : ends = endsL x0 (x0.length + 1)) : back8 N x0 x1 x2 (.e5 W ends) = some ⟨true⟩ := by
  have hsm := small_encs hl
  obtain ⟨n, hT, hn⟩ := place_at (W := W) (m := (encs x0).length) (by rw [hW, strOf_size]) hsm q1.1 q1.2
  have h1 := ends3 (N := N) (x2 := x2) hl hE hT (x0.length + 1) 0 (by omega)
  have h2 := loopN_more _ _ _ h1 (N - (x0.length + 1 + 1))
  rw [show x0.length + 1 + 1 + (N - (x0.length + 1 + 1)) = N by omega] at h2
  have hs : (W).size = (encs x0).length := by rw [hW, strOf_size]
  have c0 : decide (IntKind.i64.wrap (((W).size : Int) + 1) ≠ 0) = true := by
    rw [show IntKind.i64.wrap (((W).size : Int) + 1) = ((W).size : Int) + 1 from wrap_small (by omega) (by omega)]
    exact decide_eq_true (by omega)
  refine bif_true c0 ?_
  show (loopN (f8L260r N x0 x1 x2 W ends) N (.s0 (begF x0 (n : Int) 0) ((0 : Nat) : Int))).bind _ = _
  rw [h2]
  exact tail3 hk hl q2 hW hT hn
theorem kinds_next {xs : List (List PV)} {i : Nat} (h : i < xs.length) (hk : Kinds (xs.take i)) (k1 : 1 ≤ kindOf (xs.getD i [])) (k3 : kindOf (xs.getD i []) ≤ 3) : Kinds (xs.take (i + 1)) := by
  intro e he
  rw [List.take_add_one, List.mem_append] at he
  rcases he with he | he
  · exact hk e he
  · rw [List.getElem?_eq_getElem h] at he
    have e1 : e = xs[i] := by simpa using he
    rw [List.getD_eq_getElem?_getD, List.getElem?_eq_getElem h] at k1 k3
    subst e1
    exact ⟨k1, k3⟩
theorem round0 {N : Nat} {x0 : List (List PV)} {x1 x2 : Int} (hl : x0.length ≤ 60) (hi : 0 < x0.length) : (¬ (1 ≤ kindOf (x0.getD 0 []) ∧ kindOf (x0.getD 0 []) ≤ 3) → f8L1r N x0 x1 x2 .s0 = some (.inr .e0)) ∧ ((1 ≤ kindOf (x0.getD 0 []) ∧ kindOf (x0.getD 0 []) ≤ 3) → f8L1r N x0 x1 x2 .s0 = some (.inl .s1)) := by
  have w : IntKind.i64.wrap ((0 : Int) + 1) = ((0 + 1 : Nat) : Int) := wrap_next (i := 0) (by omega)
  have c1 : decide ((0 : Int) < (x0.length : Int)) = true := decide_eq_true (by omega)
  have c2 : (decide ((0 : Int) ≤ (0 : Int)) && decide ((0 : Int) < (x0.length : Int))) = true := by
    rw [c1, decide_eq_true (show (0 : Int) ≤ (0 : Int) by omega)]
    rfl
  have hD : (List.drop ((0 : Int)).toNat (List.take (IntKind.i64.wrap ((0 : Int) + 1)).toNat x0)) = [x0.getD 0 []] := by
    rw [w]
    exact one_piece hi
  have he1 := enc1_le (x0.getD 0 [])
  have heL : (encs [x0.getD 0 []]).length ≤ 12 := by
    have := encs_le [x0.getD 0 []]
    simpa using this
  have hsm := encs_le (x0.take 0)
  rw [List.length_take] at hsm
  have c5 : (decide ((0 : Int) ≤ (0 : Int)) && decide ((0 : Int) ≤ IntKind.i64.wrap ((0 : Int) + 1)) && decide (IntKind.i64.wrap ((0 : Int) + 1) ≤ (x0.length : Int))) = true := by
    rw [w, decide_eq_true (show (0 : Int) ≤ (0 : Int) by omega), decide_eq_true (show (0 : Int) ≤ ((0 + 1 : Nat) : Int) by omega), decide_eq_true (show ((0 + 1 : Nat) : Int) ≤ (x0.length : Int) by omega)]
    rfl
  have c6 : decide (((List.drop ((0 : Int)).toNat (List.take (IntKind.i64.wrap ((0 : Int) + 1)).toNat x0))).length ≤ most) = true := by rw [hD]; exact decide_eq_true (show 1 ≤ 1000000 by omega)
  have c7 : decide (((List.drop ((0 : Int)).toNat (List.take (IntKind.i64.wrap ((0 : Int) + 1)).toNat x0))).length ≤ 10000) = true := by rw [hD]; exact decide_eq_true (show 1 ≤ 10000 by omega)
  have c8 : decide ((({ data := #[] } : ByteArray)).size + (strOf (encs ((List.drop ((0 : Int)).toNat (List.take (IntKind.i64.wrap ((0 : Int) + 1)).toNat x0))))).size ≤ 4611686018427387904) = true := by
    rw [hD]
    simp only [strOf_size]
    exact decide_eq_true (by have := show (({ data := #[] } : ByteArray)).size = 0 from rfl; omega)
  constructor
  · intro hb
    by_cases k1 : kindOf (x0.getD 0 []) < 1
    · have c3 : decide (kindOf (x0.getD ((0 : Int)).toNat []) < 1) = true := decide_eq_true k1
      exact bif_true c1 (bif_true c2 (bif_true c3 rfl))
    · have c3 : decide (kindOf (x0.getD ((0 : Int)).toNat []) < 1) = false := decide_eq_false k1
      have c4 : decide (kindOf (x0.getD ((0 : Int)).toNat []) > 3) = true := decide_eq_true (show kindOf (x0.getD 0 []) > 3 by omega)
      exact bif_true c1 (bif_true c2 (bif_false c3 (bif_true c2 (bif_true c4 rfl))))
  · rintro ⟨k1, k3⟩
    have c3 : decide (kindOf (x0.getD ((0 : Int)).toNat []) < 1) = false := decide_eq_false (show ¬ kindOf (x0.getD 0 []) < 1 by omega)
    have c4 : decide (kindOf (x0.getD ((0 : Int)).toNat []) > 3) = false := decide_eq_false (show ¬ kindOf (x0.getD 0 []) > 3 by omega)
    exact bif_true c1 (bif_true c2 (bif_false c3 (bif_true c2 (bif_false c4 (bif_true c5 (bif_true c6 (bif_true c7 (bif_true c8 rfl))))))))
theorem round1 {N : Nat} {x0 : List (List PV)} {x1 x2 : Int} (hl : x0.length ≤ 60) (hi : 1 < x0.length) (hsz : ((({ data := #[] } : ByteArray) ++ strOf (encs (List.drop 0 (List.take 1 x0))))).size ≤ 12) : (¬ (1 ≤ kindOf (x0.getD 1 []) ∧ kindOf (x0.getD 1 []) ≤ 3) → f8L1r N x0 x1 x2 .s1 = some (.inr .e2)) ∧ ((1 ≤ kindOf (x0.getD 1 []) ∧ kindOf (x0.getD 1 []) ≤ 3) → f8L1r N x0 x1 x2 .s1 = some (.inl (.s2 (strOf (encs (x0.take 2))) ((2 : Nat) : Int) (endsL x0 3)))) := by
  have w : IntKind.i64.wrap ((1 : Int) + 1) = ((1 + 1 : Nat) : Int) := wrap_next (i := 1) (by omega)
  have c1 : decide ((1 : Int) < (x0.length : Int)) = true := decide_eq_true (by omega)
  have c2 : (decide ((0 : Int) ≤ (1 : Int)) && decide ((1 : Int) < (x0.length : Int))) = true := by
    rw [c1, decide_eq_true (show (0 : Int) ≤ (1 : Int) by omega)]
    rfl
  have hD : (List.drop ((1 : Int)).toNat (List.take (IntKind.i64.wrap ((1 : Int) + 1)).toNat x0)) = [x0.getD 1 []] := by
    rw [w]
    exact one_piece hi
  have he1 := enc1_le (x0.getD 1 [])
  have heL : (encs [x0.getD 1 []]).length ≤ 12 := by
    have := encs_le [x0.getD 1 []]
    simpa using this
  have hsm := encs_le (x0.take 1)
  rw [List.length_take] at hsm
  have c5 : (decide ((0 : Int) ≤ (1 : Int)) && decide ((1 : Int) ≤ IntKind.i64.wrap ((1 : Int) + 1)) && decide (IntKind.i64.wrap ((1 : Int) + 1) ≤ (x0.length : Int))) = true := by
    rw [w, decide_eq_true (show (0 : Int) ≤ (1 : Int) by omega), decide_eq_true (show (1 : Int) ≤ ((1 + 1 : Nat) : Int) by omega), decide_eq_true (show ((1 + 1 : Nat) : Int) ≤ (x0.length : Int) by omega)]
    rfl
  have c6 : decide (((List.drop ((1 : Int)).toNat (List.take (IntKind.i64.wrap ((1 : Int) + 1)).toNat x0))).length ≤ most) = true := by rw [hD]; exact decide_eq_true (show 1 ≤ 1000000 by omega)
  have c7 : decide (((List.drop ((1 : Int)).toNat (List.take (IntKind.i64.wrap ((1 : Int) + 1)).toNat x0))).length ≤ 10000) = true := by rw [hD]; exact decide_eq_true (show 1 ≤ 10000 by omega)
  have c8 : decide (((({ data := #[] } : ByteArray) ++ strOf (encs (List.drop 0 (List.take 1 x0))))).size + (strOf (encs ((List.drop ((1 : Int)).toNat (List.take (IntKind.i64.wrap ((1 : Int) + 1)).toNat x0))))).size ≤ 4611686018427387904) = true := by
    rw [hD]
    simp only [strOf_size]
    exact decide_eq_true (by have := hsz; omega)
  constructor
  · intro hb
    by_cases k1 : kindOf (x0.getD 1 []) < 1
    · have c3 : decide (kindOf (x0.getD ((1 : Int)).toNat []) < 1) = true := decide_eq_true k1
      exact bif_true c1 (bif_true c2 (bif_true c3 rfl))
    · have c3 : decide (kindOf (x0.getD ((1 : Int)).toNat []) < 1) = false := decide_eq_false k1
      have c4 : decide (kindOf (x0.getD ((1 : Int)).toNat []) > 3) = true := decide_eq_true (show kindOf (x0.getD 1 []) > 3 by omega)
      exact bif_true c1 (bif_true c2 (bif_false c3 (bif_true c2 (bif_true c4 rfl))))
  · rintro ⟨k1, k3⟩
    have c3 : decide (kindOf (x0.getD ((1 : Int)).toNat []) < 1) = false := decide_eq_false (show ¬ kindOf (x0.getD 1 []) < 1 by omega)
    have c4 : decide (kindOf (x0.getD ((1 : Int)).toNat []) > 3) = false := decide_eq_false (show ¬ kindOf (x0.getD 1 []) > 3 by omega)
    refine bif_true c1 (bif_true c2 (bif_false c3 (bif_true c2 (bif_false c4 (bif_true c5 (bif_true c6 (bif_true c7 (bif_true c8 ?_))))))))
    have hA : ({ data := #[] } : ByteArray) ++ strOf (encs (List.drop 0 (List.take 1 x0))) = strOf (encs (x0.take 1)) := no_bytes _
    have hB : strOf (encs (x0.take 1)) ++ strOf (encs (List.drop 1 (List.take 2 x0))) = strOf (encs (x0.take 2)) := str_next hi
    show some (Sum.inl (f8L1s.s2 (({ data := #[] } : ByteArray) ++ strOf (encs (List.drop 0 (List.take 1 x0))) ++ strOf (encs (List.drop 1 (List.take 2 x0)))) 2 [[PV.int IntKind.i64 0], [PV.int IntKind.i64 ((({ data := #[] } : ByteArray) ++ strOf (encs (List.drop 0 (List.take 1 x0)))).size : Int)], [PV.int IntKind.i64 ((({ data := #[] } : ByteArray) ++ strOf (encs (List.drop 0 (List.take 1 x0))) ++ strOf (encs (List.drop 1 (List.take 2 x0)))).size : Int)]])) = _
    rw [hA, hB, strOf_size, strOf_size]
    rfl
theorem round2 {N : Nat} {x0 : List (List PV)} {x1 x2 : Int} {i : Nat} (hl : x0.length ≤ 60) (hi : i < x0.length) : (¬ (1 ≤ kindOf (x0.getD i []) ∧ kindOf (x0.getD i []) ≤ 3) → f8L1r N x0 x1 x2 (.s2 (strOf (encs (x0.take i))) (i : Int) (endsL x0 (i + 1))) = some (.inr (.e4 (strOf (encs (x0.take i))) (endsL x0 (i + 1))))) ∧ ((1 ≤ kindOf (x0.getD i []) ∧ kindOf (x0.getD i []) ≤ 3) → f8L1r N x0 x1 x2 (.s2 (strOf (encs (x0.take i))) (i : Int) (endsL x0 (i + 1))) = some (.inl (.s2 (strOf (encs (x0.take (i + 1)))) ((i + 1 : Nat) : Int) (endsL x0 (i + 1 + 1))))) := by
  have w : IntKind.i64.wrap ((i : Int) + 1) = ((i + 1 : Nat) : Int) := wrap_next (i := i) (by omega)
  have c1 : decide ((i : Int) < (x0.length : Int)) = true := decide_eq_true (by omega)
  have c2 : (decide ((0 : Int) ≤ (i : Int)) && decide ((i : Int) < (x0.length : Int))) = true := by
    rw [c1, decide_eq_true (show (0 : Int) ≤ (i : Int) by omega)]
    rfl
  have hD : (List.drop ((i : Int)).toNat (List.take (IntKind.i64.wrap ((i : Int) + 1)).toNat x0)) = [x0.getD i []] := by
    rw [w]
    exact one_piece hi
  have he1 := enc1_le (x0.getD i [])
  have heL : (encs [x0.getD i []]).length ≤ 12 := by
    have := encs_le [x0.getD i []]
    simpa using this
  have hsm := encs_le (x0.take i)
  rw [List.length_take] at hsm
  have c5 : (decide ((0 : Int) ≤ (i : Int)) && decide ((i : Int) ≤ IntKind.i64.wrap ((i : Int) + 1)) && decide (IntKind.i64.wrap ((i : Int) + 1) ≤ (x0.length : Int))) = true := by
    rw [w, decide_eq_true (show (0 : Int) ≤ (i : Int) by omega), decide_eq_true (show (i : Int) ≤ ((i + 1 : Nat) : Int) by omega), decide_eq_true (show ((i + 1 : Nat) : Int) ≤ (x0.length : Int) by omega)]
    rfl
  have c6 : decide (((List.drop ((i : Int)).toNat (List.take (IntKind.i64.wrap ((i : Int) + 1)).toNat x0))).length ≤ most) = true := by rw [hD]; exact decide_eq_true (show 1 ≤ 1000000 by omega)
  have c7 : decide (((List.drop ((i : Int)).toNat (List.take (IntKind.i64.wrap ((i : Int) + 1)).toNat x0))).length ≤ 10000) = true := by rw [hD]; exact decide_eq_true (show 1 ≤ 10000 by omega)
  have c8 : decide ((strOf (encs (x0.take i))).size + (strOf (encs ((List.drop ((i : Int)).toNat (List.take (IntKind.i64.wrap ((i : Int) + 1)).toNat x0))))).size ≤ 4611686018427387904) = true := by
    rw [hD]
    simp only [strOf_size]
    exact decide_eq_true (by have := strOf_size (encs (x0.take i)); omega)
  have c9 : decide ((endsL x0 (i + 1)).length + 1 ≤ 1000000) = true := by rw [endsL_len]; exact decide_eq_true (by omega)
  constructor
  · intro hb
    by_cases k1 : kindOf (x0.getD i []) < 1
    · have c3 : decide (kindOf (x0.getD ((i : Int)).toNat []) < 1) = true := decide_eq_true k1
      exact bif_true c1 (bif_true c2 (bif_true c3 rfl))
    · have c3 : decide (kindOf (x0.getD ((i : Int)).toNat []) < 1) = false := decide_eq_false k1
      have c4 : decide (kindOf (x0.getD ((i : Int)).toNat []) > 3) = true := decide_eq_true (show kindOf (x0.getD i []) > 3 by omega)
      exact bif_true c1 (bif_true c2 (bif_false c3 (bif_true c2 (bif_true c4 rfl))))
  · rintro ⟨k1, k3⟩
    have c3 : decide (kindOf (x0.getD ((i : Int)).toNat []) < 1) = false := decide_eq_false (show ¬ kindOf (x0.getD i []) < 1 by omega)
    have c4 : decide (kindOf (x0.getD ((i : Int)).toNat []) > 3) = false := decide_eq_false (show ¬ kindOf (x0.getD i []) > 3 by omega)
    refine bif_true c1 (bif_true c2 (bif_false c3 (bif_true c2 (bif_false c4 (bif_true c5 (bif_true c6 (bif_true c7 (bif_true c8 (bif_true c9 ?_)))))))))
    show some (Sum.inl (f8L1s.s2 (strOf (encs (x0.take i)) ++ strOf (encs (List.drop (i : Int).toNat (List.take (IntKind.i64.wrap ((i : Int) + 1)).toNat x0)))) (IntKind.i64.wrap ((i : Int) + 1)) (endsL x0 (i + 1) ++ [[PV.int IntKind.i64 ((strOf (encs (x0.take i)) ++ strOf (encs (List.drop (i : Int).toNat (List.take (IntKind.i64.wrap ((i : Int) + 1)).toNat x0)))).size : Int)]]))) = _
    rw [w]
    show some (Sum.inl (f8L1s.s2 (strOf (encs (x0.take i)) ++ strOf (encs (List.drop i (List.take (i + 1) x0)))) _ (endsL x0 (i + 1) ++ [[PV.int IntKind.i64 ((strOf (encs (x0.take i)) ++ strOf (encs (List.drop i (List.take (i + 1) x0)))).size : Int)]]))) = _
    rw [str_next hi, strOf_size, endsL_next x0 (i + 1)]
    rfl
theorem first2 {N : Nat} {x0 : List (List PV)} {x1 x2 : Int} (hN : x0.length + 9 ≤ N) (hl : x0.length ≤ 60) (q1 : 0 ≤ x1 ∧ x1 ≤ 65535) (q2 : 0 ≤ x2 ∧ x2 ≤ 255) : ∀ (m i : Nat), i + m = x0.length → Kinds (x0.take i) → (loopN (f8L1r N x0 x1 x2) (m + 1) (.s2 (strOf (encs (x0.take i))) (i : Int) (endsL x0 (i + 1)))).bind (back8 N x0 x1 x2) = some ⟨true⟩
  | 0, i, e, hk => by
    obtain rfl : i = x0.length := by omega
    have c1 : decide (((x0.length : Nat) : Int) < (x0.length : Int)) = false := decide_eq_false (by omega)
    rw [loopN_end (z := .e5 (strOf (encs (x0.take x0.length))) (endsL x0 (x0.length + 1))) (bif_false c1 rfl)]
    rw [List.take_length] at hk ⊢
    exact behind3 hN hk hl q1 q2 rfl rfl
  | m + 1, i, e, hk => by
    obtain ⟨rb, rg⟩ := round2 (N := N) (x1 := x1) (x2 := x2) hl (show i < x0.length by omega)
    by_cases c : 1 ≤ kindOf (x0.getD i []) ∧ kindOf (x0.getD i []) ≤ 3
    · rw [loopN_next (rg c)]
      exact first2 hN hl q1 q2 m (i + 1) (by omega) (kinds_next (by omega) hk c.1 c.2)
    · rw [loopN_end (rb c)]
      rfl
theorem first_all {N : Nat} {x0 : List (List PV)} {x1 x2 : Int} (hN : x0.length + 9 ≤ N) (hl : x0.length ≤ 60) (q1 : 0 ≤ x1 ∧ x1 ≤ 65535) (q2 : 0 ≤ x2 ∧ x2 ≤ 255) : ∃ f, f ≤ N ∧ (loopN (f8L1r N x0 x1 x2) f .s0).bind (back8 N x0 x1 x2) = some ⟨true⟩ := by
  have k0 : Kinds (x0.take 0) := fun e he => by simp at he
  rcases Nat.eq_zero_or_pos x0.length with h0 | h0
  · have e : x0 = [] := List.length_eq_zero_iff.1 h0
    refine ⟨1, by omega, ?_⟩
    have c1 : decide ((0 : Int) < (x0.length : Int)) = false := decide_eq_false (by omega)
    rw [loopN_end (z := .e1) (bif_false c1 rfl)]
    subst e
    exact behind1 hN (fun e he => by simp at he) hl q1 q2 rfl rfl
  · obtain ⟨rb, rg⟩ := round0 (N := N) (x1 := x1) (x2 := x2) hl h0
    by_cases c : 1 ≤ kindOf (x0.getD 0 []) ∧ kindOf (x0.getD 0 []) ≤ 3
    · have k1 := kinds_next h0 k0 c.1 c.2
      have hA : ({ data := #[] } : ByteArray) ++ strOf (encs (List.drop 0 (List.take 1 x0))) = strOf (encs (x0.take 1)) := no_bytes _
      have hs1 : (({ data := #[] } : ByteArray) ++ strOf (encs (List.drop 0 (List.take 1 x0)))).size ≤ 12 := by
        rw [hA, strOf_size]
        have := encs_le (x0.take 1)
        rw [List.length_take] at this
        omega
      rcases Nat.lt_or_ge 1 x0.length with h1 | h1
      · obtain ⟨rb1, rg1⟩ := round1 (N := N) (x1 := x1) (x2 := x2) hl h1 hs1
        by_cases c' : 1 ≤ kindOf (x0.getD 1 []) ∧ kindOf (x0.getD 1 []) ≤ 3
        · refine ⟨x0.length - 2 + 1 + 1 + 1, by omega, ?_⟩
          rw [loopN_next (rg c), loopN_next (rg1 c')]
          exact first2 hN hl q1 q2 (x0.length - 2) 2 (by omega) (kinds_next h1 k1 c'.1 c'.2)
        · refine ⟨2, by omega, ?_⟩
          rw [loopN_next (rg c), loopN_end (rb1 c')]
          rfl
      · refine ⟨2, by omega, ?_⟩
        have c1 : decide ((1 : Int) < (x0.length : Int)) = false := decide_eq_false (by omega)
        rw [loopN_next (rg c), loopN_end (z := .e3) (bif_false c1 rfl)]
        have hx : x0.take 1 = x0 := List.take_of_length_le h1
        have hlen : x0.length = 1 := by omega
        rw [hx] at k1
        have hA2 : ({ data := #[] } : ByteArray) ++ strOf (encs (List.drop 0 (List.take 1 x0))) = strOf (encs x0) := hA.trans (by rw [hx])
        refine behind2 hN k1 hl q1 q2 hA2 ?_
        rw [hA2, strOf_size, hlen]
        have : endL x0 1 = (encs x0).length := by rw [← hlen]; exact endL_all x0
        show _ = [[PV.int .i64 ((0 : Nat) : Int)], [PV.int .i64 (endL x0 1 : Int)]]
        rw [this]
        rfl
    · refine ⟨1, by omega, ?_⟩
      rw [loopN_end (rb c)]
      rfl
theorem pureScriptCut (x0 : List (List PV)) (x1 : Int) (x2 : Int) (h0 : Wf (PV.list 38 x0)) (h1 : Wf (PV.int .u16 x1)) (h2 : Wf (PV.int .u8 x2)) (hm : Meant Try.prog [PV.list 38 x0, PV.int .u16 x1, PV.int .u8 x2]) : ∃ N, f8 N x0 x1 x2 = some ⟨true⟩ := by
  by_cases hb : (x0.length : Int) > 60
  · exact ⟨0, bif_true (decide_eq_true hb) rfl⟩
  · refine ⟨x0.length + 9, ?_⟩
    rw [f8_eq _ _ _ _ hb]
    obtain ⟨f, hf, hr⟩ := first_all (N := x0.length + 9) (Nat.le_refl _) (by omega) (wf_u16 h1) (wf_u8 h2)
    obtain ⟨z, h4, h5⟩ := Option.bind_eq_some_iff.1 hr
    have h6 := loopN_more _ _ _ h4 (x0.length + 9 - f)
    rw [show f + (x0.length + 9 - f) = x0.length + 9 by omega] at h6
    rw [h6]
    exact h5
end Go.Proofs.YtkdbccloniaogaaS
