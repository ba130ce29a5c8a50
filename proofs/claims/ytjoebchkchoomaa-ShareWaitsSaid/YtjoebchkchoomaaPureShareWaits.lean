/- The pure statement that is left of ShareWaits. Conditions: the numbers' own ranges. -/
import Derived.Test.YtjoebchkchoomaaFacts11c
import Derived.Test.YtjoebchkchoomaaF5x6
import Derived.Test.YtjoebchkchoomaaSimPure
set_option linter.unusedVariables false
set_option linter.unusedSimpArgs false
set_option maxRecDepth 10000
namespace Go.Proofs.YtjoebchkchoomaaS
open Go Go.Proofs
theorem set_other {ws : List (List PV)} {i j : Int} {p : List PV} (h0 : 0 ≤ i) (h1 : 0 ≤ j) (h : i ≠ j) : wordAt (ws.set i.toNat p) j = wordAt ws j := by
  unfold wordAt
  have : i.toNat ≠ j.toNat := by omega
  simp [List.getD_eq_getElem?_getD, List.getElem?_set_ne this]
/-- A thread that waits: its words. -/
def waitsAt (x0 : S38) (w : List (List PV)) : S38 := { x0 with a14 := w, a16 := 13, a21 := [] }
theorem waits_on (x0 : S38) (w : List (List PV)) (hi : inB w (lineT x0 x0.a12) = true) (hw : wordAt w (lineT x0 x0.a12) = 0) : stepT (waitsAt x0 w) = waitsAt x0 w := by
  show waitR (waitsAt x0 w) = _
  unfold waitR
  have e1 : inB (waitsAt x0 w).a14 (lineT (waitsAt x0 w) (waitsAt x0 w).a12) = true := hi
  have e2 : (wordAt (waitsAt x0 w).a14 (lineT (waitsAt x0 w) (waitsAt x0 w).a12) == 5) = false := by
    have : wordAt (waitsAt x0 w).a14 (lineT (waitsAt x0 w) (waitsAt x0 w).a12) = 0 := hw
    rw [this]
    rfl
  rw [e1, e2]
  rfl
theorem waits_told (x0 : S38) (w : List (List PV)) (hi : inB w (lineT x0 x0.a12) = true) (hw : wordAt w (lineT x0 x0.a12) = 5) : stepT (waitsAt x0 w) = { waitsAt x0 w with a16 := 14 } := by
  show waitR (waitsAt x0 w) = _
  unfold waitR
  have e1 : inB (waitsAt x0 w).a14 (lineT (waitsAt x0 w) (waitsAt x0 w).a12) = true := hi
  have e2 : (wordAt (waitsAt x0 w).a14 (lineT (waitsAt x0 w) (waitsAt x0 w).a12) == 5) = true := by
    have : wordAt (waitsAt x0 w).a14 (lineT (waitsAt x0 w) (waitsAt x0 w).a12) = 5 := hw
    rw [this]
    rfl
  rw [e1, e2]
  rfl
theorem waits_takes (x0 : S38) (w : List (List PV)) (hi : inB w (resT x0 x0.a12) = true) : stepT { waitsAt x0 w with a16 := 14 } = { waitsAt x0 w with a16 := 0, a25 := 0, a30 := wordAt w (resT x0 x0.a12), a36 := true } := by
  show fetchR { waitsAt x0 w with a16 := 14 } = _
  unfold fetchR
  have e1 : inB ({ waitsAt x0 w with a16 := 14 } : S38).a14 (resT ({ waitsAt x0 w with a16 := 14 } : S38) ({ waitsAt x0 w with a16 := 14 } : S38).a12) = true := hi
  rw [e1]
  rfl
theorem pureShareWaits (x0 : S38) (x1 : Int) (h0 : Wf (S38v x0)) (h1 : Wf (PV.int .i64 x1)) (hmean : Meant Try.prog [S38v x0, PV.int .i64 x1]) : ∃ N, f6 N x0 x1 = some ⟨true⟩ := by
  refine ⟨0, ?_⟩
  unfold f6 f6t0
  refine run_test (fun h => rfl) (fun hb => ?_)
  refine run_test (fun h => rfl) (fun hm => ?_)
  have hs := small_of hb
  have hM := may_of (x := x0) (by simpa using hm)
  have hG := good_of hs hM
  have hf := fits_of hs
  obtain ⟨p0, p1, p2, _⟩ := place_val hM hM.t0 hM.t1
  have hlw := hs.w
  have eR : IntKind.i64.wrap (lineT x0 x0.a12 + 1) = resT x0 x0.a12 := by
    rw [p1, wrap_small (by omega) (by omega)]
  have eR' : IntKind.i64.wrap (lineOf x0.a0 x0.a1 x0.a3 x0.a4 x0.a5 x0.a12 + 1) = resT x0 x0.a12 := eR
  have eL : lineOf x0.a0 x0.a1 x0.a3 x0.a4 x0.a5 x0.a12 = lineT x0 x0.a12 := rfl
  rw [eR', eL]
  have i0 : inB x0.a14 (lineT x0 x0.a12) = true := inB_true.2 ⟨p0, by omega⟩
  refine run_true (decide_eq_true hG.d4) (run_true (most_ok (by omega)) (run_true i0 ?_))
  generalize hL : lineT x0 x0.a12 = L at *
  generalize hR : resT x0 x0.a12 = R at *
  generalize hw1 : (x0.a14.set L.toNat [PV.int .i64 0]).set R.toNat [PV.int .i64 x1] = w1
  have len1 : w1.length = x0.a14.length := by rw [← hw1]; simp
  have len0 : (x0.a14.set L.toNat [PV.int .i64 0]).length = x0.a14.length := by simp
  have in1 : inB w1 L = true := inB_true.2 ⟨p0, by rw [len1]; omega⟩
  have at1 : wordAt w1 L = 0 := by
    rw [← hw1, set_other (by omega) p0 (by omega), set_at p0 (by omega)]
  have fU : Fits (waitsAt x0 w1) := ⟨by show w1.length ≤ 1000; omega, hf.n, hf.b, by show 0 ≤ 1000; omega, hf.h, hf.t, hf.l, hf.bx⟩
  have gU : goodB (waitsAt x0 w1) = true := good_iff.2 ⟨hG.d0, hG.d4, by show w1.length ≤ 1000; omega, hG.lb⟩
  have sU : stepT (waitsAt x0 w1) = waitsAt x0 w1 := waits_on x0 w1 (by rw [hL]; exact in1) (by rw [hL]; exact at1)
  generalize hw2 : w1.set L.toNat [PV.int .i64 5] = w2
  have len2 : w2.length = x0.a14.length := by rw [← hw2]; simp [len1]
  have at2 : wordAt w2 L = 5 := by
    rw [← hw2, set_at p0 (by omega)]
  have at3 : wordAt w2 R = x1 := by
    rw [← hw2, set_other p0 (by omega) (by omega), ← hw1, set_at (by omega) (by omega)]
  have in2 : inB w2 L = true := inB_true.2 ⟨p0, by rw [len2]; omega⟩
  have in3 : inB w2 R = true := inB_true.2 ⟨by omega, by rw [len2]; omega⟩
  have gV : goodB (waitsAt x0 w2) = true := good_iff.2 ⟨hG.d0, hG.d4, by show w2.length ≤ 1000; omega, hG.lb⟩
  have gV' : goodB { waitsAt x0 w2 with a16 := 14 } = true := good_iff.2 ⟨hG.d0, hG.d4, by show w2.length ≤ 1000; omega, hG.lb⟩
  have sV : stepT (waitsAt x0 w2) = { waitsAt x0 w2 with a16 := 14 } := waits_told x0 w2 (by rw [hL]; exact in2) (by rw [hL]; exact at2)
  have sV' : stepT { waitsAt x0 w2 with a16 := 14 } = { waitsAt x0 w2 with a16 := 0, a25 := 0, a30 := x1, a36 := true } := by
    rw [waits_takes x0 w2 (by rw [hR]; exact in3), hR, at3]
  have e : f14 0 (itsR (stepT (waitsAt x0 w1))) (itsR (waitsAt x0 w1)) = some ⟨true⟩ := by
    rw [sU]
    exact alike_its fU
  refine run_true ?_ (run_true gU (run_true ?_ (run_true (its_ok fU) (run_true ?_ (run_false ?_ (run_true (most_ok (by omega)) (run_true in1 (run_true gV (run_true ?_ (run_true ?_ (run_true ?_ (run_true ?_ (run_true ?_ ?_)))))))))))))
  · rw [len0]
    exact inB_true (ws := x0.a14).2 ⟨by omega, by omega⟩
  · show itsOk (stepT (waitsAt x0 w1)) = true
    rw [sU]
    exact its_ok fU
  · show (f14 0 (itsR (stepT (waitsAt x0 w1))) (itsR (waitsAt x0 w1))).isSome = true
    rw [e]
    rfl
  · show (!((f14 0 (itsR (stepT (waitsAt x0 w1))) (itsR (waitsAt x0 w1))).getD f14d).y1) = false
    rw [e]
    rfl
  · show goodB (stepT (waitsAt x0 w2)) = true
    rw [sV]
    exact gV'
  · show stepB (stepT (waitsAt x0 w2)) = true
    rw [sV]
    rfl
  · show ((stepT (waitsAt x0 w2)).a16 == 14) = true
    rw [sV]
    rfl
  · show (stepT (stepT (waitsAt x0 w2))).a36 = true
    rw [sV, sV']
  · show ((stepT (stepT (waitsAt x0 w2))).a30 == x1) = true
    rw [sV, sV']
    simp
  · have hfin : (stepT (stepT (waitsAt x0 w2))).a16 = 0 := by rw [sV, sV']
    show some (f6o.r0 (!((stepT (stepT (waitsAt x0 w2))).a16 != 0))) = _
    rw [hfin]
    rfl
end Go.Proofs.YtjoebchkchoomaaS
