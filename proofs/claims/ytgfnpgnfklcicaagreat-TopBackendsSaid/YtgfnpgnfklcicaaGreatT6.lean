/- Part 6 of what the proof of TopBackends leans on. Conditions: none. -/
import Derived.Test.YtgfnpgnfklcicaaGreatT5
set_option linter.unusedSimpArgs false
set_option linter.unusedVariables false
set_option maxRecDepth 10000
namespace Go.Proofs.YtgfnpgnfklcicaaGreatS
open Go Go.Proofs
structure May (x : S23) : Prop where
 th : 1 ≤ x.a0 ∧ x.a0 ≤ 16
 it : 1 ≤ x.a1 ∧ x.a1 ≤ 4
 ba : 1 ≤ x.a2 ∧ x.a2 ≤ 3
 de : 0 ≤ x.a3 ∧ x.a3 ≤ 4
 la : 0 ≤ x.a4 ∧ x.a4 ≤ 3
 wi : 1 ≤ x.a5 ∧ x.a5 ≤ 8
 sp : 0 ≤ x.a6 ∧ x.a6 ≤ 20
 wa : 0 ≤ x.a7 ∧ x.a7 ≤ 1000
def pw (d : Int) : Int := if d < 1 then 1 else if d < 2 then 2 else if d < 3 then 4 else if d < 4 then 8 else 16
theorem qC (d : Int) : 1 ≤ pw d ∧ pw d ≤ 16 := by
 unfold pw
 repeat' split
 all_goals omega
def blk (x : S23) : Int := pw x.a3 + x.a4 * x.a5
def Zv (x : S23) (i : Int) : Int := i * blk x
def Zw (x : S23) (i n : Int) : Int := i * blk x + n
def qm (x : S23) (i l n : Int) : Int := i * blk x + pw x.a3 + (l - 1) * x.a5 + n
def qx (x : S23) (t : Int) : Int := x.a1 * blk x + 2 * t
def yh (x : S23) : Int := x.a1 * blk x + 2 * x.a0
theorem yyo {e f : Int} (he : 0 ≤ e ∧ e ≤ 3) (hf : 1 ≤ f ∧ f ≤ 8) : 0 ≤ e * f ∧ e * f ≤ 24 := by
 have h : e = 0 ∨ e = 1 ∨ e = 2 ∨ e = 3 := by omega
 rcases h with rfl | rfl | rfl | rfl <;> omega
theorem qn {x : S23} (m : May x) : pw x.a3 ≤ blk x ∧ 1 ≤ blk x ∧ blk x ≤ 40 := by
 have := qC x.a3; have := yyo m.la m.wi; unfold blk; omega
theorem Jf {i b : Int} (hx : 0 ≤ i ∧ i ≤ 4) (hb : 1 ≤ b ∧ b ≤ 40) : 0 ≤ i * b ∧ i * b ≤ 160 := by
 have h : i = 0 ∨ i = 1 ∨ i = 2 ∨ i = 3 ∨ i = 4 := by omega
 rcases h with rfl | rfl | rfl | rfl | rfl <;> omega
theorem zp {x : S23} (m : May x) {i j : Int} (h : i < j) (hi : 0 ≤ i) (hj : j ≤ 4) : i * blk x + blk x ≤ j * blk x := by
 have hb := qn m
 have h1 : i = 0 ∨ i = 1 ∨ i = 2 ∨ i = 3 := by omega
 have h2 : j = 1 ∨ j = 2 ∨ j = 3 ∨ j = 4 := by omega
 rcases h1 with rfl | rfl | rfl | rfl <;> rcases h2 with rfl | rfl | rfl | rfl <;> omega
theorem Zyd {d : Int} (h : 0 ≤ d ∧ d ≤ 4) : IntKind.i64.wrap ((1 : Int) * (2 : Int) ^ min d.toNat (64 : Nat)) = pw d := by
 have hd : d = 0 ∨ d = 1 ∨ d = 2 ∨ d = 3 ∨ d = 4 := by omega
 rcases hd with rfl | rfl | rfl | rfl | rfl <;> decide +kernel
theorem w_in {n : Int} (h : -1000000 ≤ n ∧ n ≤ 1000000) : IntKind.i64.wrap n = n := yu (by omega) (by omega)
theorem YyS {x : S23} (m : May x) : IntKind.i64.wrap (IntKind.i64.wrap ((1 : Int) + IntKind.i64.wrap (IntKind.i64.wrap ((1 : Int) * (2 : Int) ^ min x.a3.toNat (64 : Nat)) - (1 : Int))) + IntKind.i64.wrap (x.a4 * x.a5)) = blk x := by
 have h1 := qC x.a3
 have h2 := yyo m.la m.wi
 rw [Zyd m.de, w_in (n := pw x.a3 - 1) (by omega), w_in (n := 1 + (pw x.a3 - 1)) (by omega), w_in (n := x.a4 * x.a5) (by omega), w_in (by omega)]
 unfold blk
 omega
theorem jza {x : S23} (m : May x) : f62 0 x = some ⟨yh x⟩ := by
 have hb := qn m
 have hm := Jf (i := x.a1) (by have := m.it; omega) hb.2
 have ht := m.th
 refine zz (decide_eq_true m.de.1) ?_
 show some (f62o.r0 _) = _
 rw [YyS m, w_in (n := x.a1 * blk x) (by omega), w_in (n := 2 * x.a0) (by omega), w_in (by omega)]
 rfl
theorem yM {x : S23} (m : May x) {i : Int} (h0 : 0 ≤ i) (h1 : i < x.a1) : f34 0 x i = some ⟨Zv x i⟩ := by
 have hb := qn m
 have hm := Jf (i := i) (by have := m.it; omega) hb.2
 refine yz (decide_eq_false (by omega)) (yz (decide_eq_false (by omega)) (zz (decide_eq_true m.de.1) ?_))
 show some (f34o.r0 _) = _
 rw [YyS m, w_in (by omega)]
 rfl
theorem Zza {x : S23} (m : May x) {t : Int} (h0 : 0 ≤ t) (h1 : t < x.a0) : f88 0 x t = some ⟨qx x t⟩ := by
 have hb := qn m
 have hm := Jf (i := x.a1) (by have := m.it; omega) hb.2
 have ht := m.th
 refine yz (decide_eq_false (by omega)) (yz (decide_eq_false (by omega)) (zz (decide_eq_true m.de.1) ?_))
 show some (f88o.r0 _) = _
 rw [YyS m, w_in (n := x.a1 * blk x) (by omega), w_in (n := 2 * t) (by omega), w_in (by omega)]
 rfl
theorem Ja (n : Int) : Go.RowKit.wrap64 n = IntKind.i64.wrap n := (Qc n).symm
theorem Qz3 {x : S23} (m : May x) : arena_Nodes.f x.a0 x.a1 x.a2 x.a3 x.a4 x.a5 x.a6 x.a7 x.a8 x.a9 x.a10 x.a11 = some (pw x.a3 - 1) := by
 have h1 := qC x.a3
 unfold arena_Nodes.f
 rw [if_pos m.de.1, Zyd m.de, w_in (by omega)]
theorem of_w {x : S23} (m : May x) : arena_of.f x.a0 x.a1 x.a2 x.a3 x.a4 x.a5 x.a6 x.a7 x.a8 x.a9 x.a10 x.a11 = some (1, pw x.a3, blk x, x.a1 * blk x) := by
 have h1 := qC x.a3
 have h2 := yyo m.la m.wi
 have hb := qn m
 have hm := Jf (i := x.a1) (by have := m.it; omega) hb.2
 unfold arena_of.f
 rw [Qz3 m]
 simp only [Option.bind_some, Ja]
 have e1 : IntKind.i64.wrap (1 + (pw x.a3 - 1)) = pw x.a3 := by rw [w_in (by omega)]; omega
 have e2 : IntKind.i64.wrap (x.a4 * x.a5) = x.a4 * x.a5 := w_in (by omega)
 have e3 : IntKind.i64.wrap (pw x.a3 + x.a4 * x.a5) = blk x := by rw [w_in (by omega)]; rfl
 have e4 : IntKind.i64.wrap (x.a1 * blk x) = x.a1 * blk x := w_in (by omega)
 rw [e1, e2, e3, e4]
theorem zzz {x : S23} (m : May x) {i n : Int} (h0 : 0 ≤ i) (h1 : i < x.a1) (h2 : 1 ≤ n) (h3 : n < pw x.a3) : f98V x i n = Zw x i n := by
 have hp := qC x.a3
 have hb := qn m
 have hm := Jf (i := i) (by have := m.it; omega) hb.2
 unfold f98V f98R arena_Node.f arena_Node.clof arena_Node.leaff
 rw [if_neg (by omega), Qz3 m]
 simp only [Option.bind_some, Ja]
 have e1 : IntKind.i64.wrap (1 + (pw x.a3 - 1)) = pw x.a3 := by rw [w_in (by omega)]; omega
 rw [e1, if_neg (by omega), of_w m]
 simp only [Option.bind_some, Ja]
 rw [w_in (n := i * blk x) (by omega), w_in (by omega)]
 rfl
theorem qyo {x : S23} (m : May x) {i l n : Int} (h0 : 0 ≤ i) (h1 : i < x.a1) (h2 : 1 ≤ l) (h3 : l ≤ x.a4) (h4 : 0 ≤ n) (h5 : n < x.a5) : zi x i l n = qm x i l n := by
 have hp := qC x.a3
 have hb := qn m
 have hl := m.la
 have hw := m.wi
 have hm := Jf (i := i) (by have := m.it; omega) hb.2
 have h6 : 0 ≤ (l - 1) * x.a5 ∧ (l - 1) * x.a5 ≤ 24 := yyo (by omega) m.wi
 unfold zi yyr arena_Slot.f arena_Slot.clof arena_Slot.midf arena_Slot.leaff
 rw [if_neg (by omega), Ja, w_in (n := 1 + x.a4) (by omega), if_neg (by omega), if_neg (by omega), of_w m]
 simp only [Option.bind_some, Ja]
 rw [w_in (n := i * blk x) (by omega), w_in (n := i * blk x + pw x.a3) (by omega), w_in (n := l - 1) (by omega), w_in (n := (l - 1) * x.a5) (by omega), w_in (n := i * blk x + pw x.a3 + (l - 1) * x.a5) (by omega), w_in (by omega)]
 rfl
theorem Zd {x : S23} (m : May x) {i : Int} (h0 : 0 ≤ i) (h1 : i < x.a1) : 0 ≤ Zv x i ∧ Zv x i < yh x := by
 have hb := qn m; have ht := m.th; have hi := m.it
 have := zp m h1 h0 (by omega)
 have hm := Jf (i := i) (by omega) hb.2
 unfold Zv yh; omega
theorem Yd {x : S23} (m : May x) {i n : Int} (h0 : 0 ≤ i) (h1 : i < x.a1) (h2 : 1 ≤ n) (h3 : n < pw x.a3) : 0 ≤ Zw x i n ∧ Zw x i n < yh x := by
 have hb := qn m; have ht := m.th; have hi := m.it
 have := zp m h1 h0 (by omega)
 have hm := Jf (i := i) (by omega) hb.2
 unfold Zw yh; omega
theorem Zg {x : S23} (m : May x) {t : Int} (h0 : 0 ≤ t) (h1 : t < x.a0) : 0 ≤ qx x t ∧ qx x t < yh x := by
 have hb := qn m; have ht := m.th; have hi := m.it
 have hm := Jf (i := x.a1) (by omega) hb.2
 unfold qx yh; omega
theorem qM {x : S23} (m : May x) {l n : Int} (h2 : 1 ≤ l) (h3 : l ≤ x.a4) (h4 : 0 ≤ n) (h5 : n < x.a5) : 0 ≤ (l - 1) * x.a5 + n ∧ pw x.a3 + (l - 1) * x.a5 + n < blk x := by
 have hl := m.la; have hw := m.wi; have hp := qC x.a3
 have e : x.a4 = 1 ∨ x.a4 = 2 ∨ x.a4 = 3 := by omega
 have e2 : l = 1 ∨ l = 2 ∨ l = 3 := by omega
 unfold blk
 rcases e with e | e | e <;> rw [e] <;> rcases e2 with e2 | e2 | e2 <;> rw [e2] <;> omega
theorem QyS {x : S23} (m : May x) {i l n : Int} (h0 : 0 ≤ i) (h1 : i < x.a1) (h2 : 1 ≤ l) (h3 : l ≤ x.a4) (h4 : 0 ≤ n) (h5 : n < x.a5) : 0 ≤ qm x i l n ∧ qm x i l n < yh x := by
 have hb := qn m; have ht := m.th; have hi := m.it
 have hp := qC x.a3
 have := zp m h1 h0 (by omega)
 have hm := Jf (i := i) (by omega) hb.2
 have := qM m h2 h3 h4 h5
 unfold qm yh; omega
theorem ZG {x : S23} (m : May x) {i t : Int} (h0 : 0 ≤ i) (h1 : i < x.a1) (h2 : 0 ≤ t) : Zv x i < qx x t := by
 have hb := qn m; have hi := m.it
 have := zp m h1 h0 (by omega)
 unfold Zv qx; omega
theorem qzr {x : S23} (m : May x) {i n t : Int} (h0 : 0 ≤ i) (h1 : i < x.a1) (h3 : n < pw x.a3) (h2 : 0 ≤ t) : Zw x i n < qx x t := by
 have hb := qn m; have hi := m.it
 have := zp m h1 h0 (by omega)
 unfold Zw qx; omega
theorem Jz3 {x : S23} (m : May x) {i l n t : Int} (h0 : 0 ≤ i) (h1 : i < x.a1) (h2 : 1 ≤ l) (h3 : l ≤ x.a4) (h4 : 0 ≤ n) (h5 : n < x.a5) (h6 : 0 ≤ t) : qm x i l n < qx x t := by
 have hb := qn m; have hi := m.it
 have := zp m h1 h0 (by omega)
 have := qM m h2 h3 h4 h5
 unfold qm qx; omega
theorem Yza {x : S23} (m : May x) {i j : Int} (h0 : 0 ≤ i) (h1 : i < x.a1) (h2 : 0 ≤ j) (h3 : j < x.a1) (e : Zv x i = Zv x j) : i = j := by
 have hb := qn m; have hi := m.it
 unfold Zv at e
 rcases Int.lt_trichotomy i j with h | h | h
 · have := zp m h h0 (by omega); omega
 · exact h
 · have := zp m h h2 (by omega); omega
theorem YG {x : S23} (m : May x) {i j n : Int} (h0 : 0 ≤ i) (h1 : i < x.a1) (h2 : 0 ≤ j) (h3 : j < x.a1) (h4 : 1 ≤ n) (h5 : n < pw x.a3) : Zv x i ≠ Zw x j n := by
 have hb := qn m; have hi := m.it
 unfold Zv Zw
 rcases Int.lt_trichotomy i j with h | h | h
 · have := zp m h h0 (by omega); omega
 · subst h; omega
 · have := zp m h h2 (by omega); omega
theorem Qza {x : S23} (m : May x) {i j n k : Int} (h0 : 0 ≤ i) (h1 : i < x.a1) (h2 : 0 ≤ j) (h3 : j < x.a1) (h4 : 1 ≤ n) (h5 : n < pw x.a3) (h6 : 1 ≤ k) (h7 : k < pw x.a3) (e : Zw x i n = Zw x j k) : i = j ∧ n = k := by
 have hb := qn m; have hi := m.it
 unfold Zw at e
 rcases Int.lt_trichotomy i j with h | h | h
 · have := zp m h h0 (by omega); omega
 · subst h; omega
 · have := zp m h h2 (by omega); omega
theorem zz4 {x : S23} (m : May x) {i j l n : Int} (h0 : 0 ≤ i) (h1 : i < x.a1) (h2 : 0 ≤ j) (h3 : j < x.a1) (h4 : 1 ≤ l) (h5 : l ≤ x.a4) (h6 : 0 ≤ n) (h7 : n < x.a5) : Zv x i ≠ qm x j l n := by
 have hb := qn m; have hi := m.it; have hp := qC x.a3
 have := qM m h4 h5 h6 h7
 unfold Zv qm
 rcases Int.lt_trichotomy i j with h | h | h
 · have := zp m h h0 (by omega); omega
 · subst h; omega
 · have := zp m h h2 (by omega); omega
theorem yz4 {x : S23} (m : May x) {i k j l n : Int} (h0 : 0 ≤ i) (h1 : i < x.a1) (g1 : 1 ≤ k) (g2 : k < pw x.a3) (h2 : 0 ≤ j) (h3 : j < x.a1) (h4 : 1 ≤ l) (h5 : l ≤ x.a4) (h6 : 0 ≤ n) (h7 : n < x.a5) : Zw x i k ≠ qm x j l n := by
 have hb := qn m; have hi := m.it; have hp := qC x.a3
 have := qM m h4 h5 h6 h7
 unfold Zw qm
 rcases Int.lt_trichotomy i j with h | h | h
 · have := zp m h h0 (by omega); omega
 · subst h; omega
 · have := zp m h h2 (by omega); omega
def wAt (l : List (List PV)) (p : Int) : Int := pInt ((l.getD p.toNat []).headD PV.undef)
def wSet (l : List (List PV)) (p v : Int) : List (List PV) := l.set p.toNat [PV.int IntKind.i64 v]
theorem yi (l : List (List PV)) (p v : Int) : (wSet l p v).length = l.length := by simp [wSet]
theorem Qd {l : List (List PV)} {p : Int} (v : Int) (h0 : 0 ≤ p) (h1 : p < (l.length : Int)) : wAt (wSet l p v) p = v := by
 unfold wAt wSet
 rw [List.getD_eq_getElem?_getD, List.getElem?_set_self (by omega)]
 rfl
theorem yp {l : List (List PV)} {p q : Int} (v : Int) (h0 : 0 ≤ p) (h1 : 0 ≤ q) (h : p ≠ q) : wAt (wSet l p v) q = wAt l q := by
 unfold wAt wSet
 rw [List.getD_eq_getElem?_getD, List.getElem?_set_ne (by omega), ← List.getD_eq_getElem?_getD]
theorem zZ {l : List (List PV)} {p : Int} (h0 : 0 ≤ p) (h1 : p < (l.length : Int)) : (decide (0 ≤ p) && decide (p < (l.length : Int))) = true := by
 rw [decide_eq_true h0, decide_eq_true h1]; rfl
theorem JU (l b : List (List PV)) {p : Int} (h0 : 0 ≤ p) (h1 : p < (l.length : Int)) : f33 0 ⟨l, b⟩ p = some ⟨wAt l p, 0⟩ :=
 yz (decide_eq_false (by omega)) (yz (decide_eq_false (show ¬ p ≥ (l.length : Int) by omega)) (zz (zZ h0 h1) rfl))
theorem jzr (l b : List (List PV)) {p : Int} (v : Int) (hl : l.length ≤ 1000) (h0 : 0 ≤ p) (h1 : p < (l.length : Int)) : f87 0 ⟨l, b⟩ p v = some ⟨wSet l p v, b, 0⟩ :=
 yz (decide_eq_false (by omega)) (yz (decide_eq_false (show ¬ p ≥ (l.length : Int) by omega)) (zz (zZ h0 h1) (zz (decide_eq_true (show l.length ≤ 1000000 by omega)) (zz (zZ h0 h1) rfl))))
theorem QG (l b : List (List PV)) {p : Int} (o v : Int) (hl : l.length ≤ 1000) (h0 : 0 ≤ p) (h1 : p < (l.length : Int)) (h : wAt l p = o) : f102 0 ⟨l, b⟩ p o v = some ⟨wSet l p v, b, true, 0⟩ := by
 have e : (pInt ((l.getD p.toNat []).headD PV.undef) == o) = true := by simpa [wAt] using h
 refine yz (decide_eq_false (by omega)) (yz (decide_eq_false (show ¬ p ≥ (l.length : Int) by omega)) (zz (zZ h0 h1) (zz e (zz (decide_eq_true (show l.length ≤ 1000000 by omega)) (zz (zZ h0 h1) ?_)))))
 show some (f102o.r0 _ _ (pInt ((l.getD p.toNat []).headD PV.undef) == o) _) = _
 rw [e]
 rfl
theorem JyS (l b : List (List PV)) {p : Int} (o v : Int) (h0 : 0 ≤ p) (h1 : p < (l.length : Int)) (h : wAt l p ≠ o) : f102 0 ⟨l, b⟩ p o v = some ⟨l, b, false, 0⟩ := by
 have e : (pInt ((l.getD p.toNat []).headD PV.undef) == o) = false := by simpa [wAt] using h
 refine yz (decide_eq_false (by omega)) (yz (decide_eq_false (show ¬ p ≥ (l.length : Int) by omega)) (zz (zZ h0 h1) (yz e ?_)))
 show some (f102o.r0 _ _ (pInt ((l.getD p.toNat []).headD PV.undef) == o) _) = _
 rw [e]
theorem jyo (l b : List (List PV)) {p : Int} (v : Int) (hl : l.length ≤ 1000) (h0 : 0 ≤ p) (h1 : p < (l.length : Int)) : f154 0 ⟨l, b⟩ p v = some ⟨wSet l p v, b, wAt l p, 0⟩ :=
 yz (decide_eq_false (by omega)) (yz (decide_eq_false (show ¬ p ≥ (l.length : Int) by omega)) (zz (zZ h0 h1) (zz (decide_eq_true (show l.length ≤ 1000000 by omega)) (zz (zZ h0 h1) rfl))))
theorem zyR (l b : List (List PV)) {t : Int} (e : List (List PV)) (hl : b.length ≤ 1000) (he : e.length ≤ 1000) (h0 : 0 ≤ t) (h1 : t < (b.length : Int)) : f151 0 ⟨l, b⟩ t e = some ⟨l, b.set t.toNat [PV.list 147 e], 0⟩ :=
 yz (decide_eq_false (by omega)) (yz (decide_eq_false (show ¬ t ≥ (b.length : Int) by omega)) (zz (zZ h0 h1) (zz (decide_eq_true (show b.length ≤ 1000000 by omega)) (zz (decide_eq_true (show e.length ≤ 1000000 by omega)) (zz (zZ h0 h1) rfl)))))
set_option maxRecDepth 10000
def qz (x : S131) : S131 := { x with a35 := [], a36 := false }
theorem qw {a b : Int} (h : a ≠ b) : (a == b) = false := by simpa using h
theorem Jza {a b : Int} (h : a ≠ b) : (a != b) = true := by simpa using h
theorem Qm {a b : Int} (h : a = b) : (a == b) = true := by simpa using h
theorem JG {a b : Int} (h : a = b) : (a != b) = false := by simpa using h
theorem zzZ {x : S131} (h : x.a16 ≠ 1) : f81 0 x = some (of81 x false) := zz (Jza h) rfl
theorem yzZ {x : S131} (h1 : x.a16 ≠ 13) (h2 : x.a16 ≠ 14) (h3 : x.a16 ≠ 15) (h4 : x.a16 ≠ 16) : f82 0 x = some (of82 x false) := yz (qw h1) (yz (qw h2) (yz (qw h3) (yz (qw h4) rfl)))
theorem qz4 {x : S131} (h1 : x.a16 ≠ 3) (h2 : x.a16 ≠ 2) (h3 : x.a16 ≠ 25) : f83 0 x = some (of83 x false) := yz (qw h1) (zz (Jza h2) (zz (Jza h3) rfl))
theorem Yyd {x : S131} (h : 0 ≤ x.a3) (h1 : x.a16 ≠ 4) (h2 : x.a16 ≠ 6) (h3 : x.a16 ≠ 5) : f84 0 x = some (of84 x false) := zz (decide_eq_true h) (yz (qw h1) (yz (qw h2) (yz (qw h3) rfl)))
theorem QyJ {x : S131} (h1 : x.a16 ≠ 7) (h2 : x.a16 ≠ 8) (h3 : x.a16 ≠ 9) (h4 : x.a16 ≠ 10) (h5 : x.a16 ≠ 11) (h6 : x.a16 ≠ 12) : f85 0 x = some (of85 x false) := yz (qw h1) (yz (qw h2) (yz (qw h3) (yz (qw h4) (yz (qw h5) (yz (qw h6) rfl)))))
theorem yZ {x : S131} (h : x.a16 ≠ 0) : (!((f38 (0 : Nat) { a0 := x.a16, a1 := x.a17, a2 := x.a18, a3 := x.a19, a4 := x.a20, a5 := x.a21, a6 := x.a22, a7 := x.a23, a8 := x.a24, a9 := x.a25, a10 := x.a26, a11 := x.a27, a12 := x.a28, a13 := x.a29, a14 := x.a30, a15 := x.a31, a16 := x.a32 }).getD f38d).y0) = false := by
 show (!(x.a16 != 0)) = false
 rw [Jza h]
 rfl
theorem Zzr {x y : S131} (n0 : x.a16 ≠ 0)  (h : f81 0 (qz x) = some (of81 y true)) : f79 0 x = some y := by
 refine yz (yZ n0) (zz (show (f81 0 (qz x)).isSome = true by rw [h]; rfl) (yz (show (!((f81 0 (qz x)).getD f81d).y38) = false by rw [h]; rfl) ?_))
 show some (S131.mk ((f81 0 (qz x)).getD f81d).y1 ((f81 0 (qz x)).getD f81d).y2 ((f81 0 (qz x)).getD f81d).y3 ((f81 0 (qz x)).getD f81d).y4 ((f81 0 (qz x)).getD f81d).y5 ((f81 0 (qz x)).getD f81d).y6 ((f81 0 (qz x)).getD f81d).y7 ((f81 0 (qz x)).getD f81d).y8 ((f81 0 (qz x)).getD f81d).y9 ((f81 0 (qz x)).getD f81d).y10 ((f81 0 (qz x)).getD f81d).y11 ((f81 0 (qz x)).getD f81d).y12 ((f81 0 (qz x)).getD f81d).y13 ((f81 0 (qz x)).getD f81d).y14 ((f81 0 (qz x)).getD f81d).y15 ((f81 0 (qz x)).getD f81d).y16 ((f81 0 (qz x)).getD f81d).y17 ((f81 0 (qz x)).getD f81d).y18 ((f81 0 (qz x)).getD f81d).y19 ((f81 0 (qz x)).getD f81d).y20 ((f81 0 (qz x)).getD f81d).y21 ((f81 0 (qz x)).getD f81d).y22 ((f81 0 (qz x)).getD f81d).y23 ((f81 0 (qz x)).getD f81d).y24 ((f81 0 (qz x)).getD f81d).y25 ((f81 0 (qz x)).getD f81d).y26 ((f81 0 (qz x)).getD f81d).y27 ((f81 0 (qz x)).getD f81d).y28 ((f81 0 (qz x)).getD f81d).y29 ((f81 0 (qz x)).getD f81d).y30 ((f81 0 (qz x)).getD f81d).y31 ((f81 0 (qz x)).getD f81d).y32 ((f81 0 (qz x)).getD f81d).y33 ((f81 0 (qz x)).getD f81d).y34 ((f81 0 (qz x)).getD f81d).y35 ((f81 0 (qz x)).getD f81d).y36 ((f81 0 (qz x)).getD f81d).y37) = some y
 rw [h]
 rfl
theorem JyJ {x y : S131} (n0 : x.a16 ≠ 0) (n1 : x.a16 ≠ 1) (n13 : x.a16 ≠ 13) (n14 : x.a16 ≠ 14) (n15 : x.a16 ≠ 15) (n16 : x.a16 ≠ 16) (h : f83 0 (qz x) = some (of83 y true)) : f79 0 x = some y := by
 have s81 : f81 0 (qz x) = some (of81 (qz x) false) := zzZ (show (qz x).a16 ≠ 1 from n1)
 have s82 : f82 0 (qz x) = some (of82 (qz x) false) := yzZ (show (qz x).a16 ≠ 13 from n13) (show (qz x).a16 ≠ 14 from n14) (show (qz x).a16 ≠ 15 from n15) (show (qz x).a16 ≠ 16 from n16)
 refine yz (yZ n0) (zz (show (f81 0 (qz x)).isSome = true by rw [s81]; rfl) (zz (show (!((f81 0 (qz x)).getD f81d).y38) = true by rw [s81]; rfl) (zz (show (f82 0 (qz x)).isSome = true by rw [s82]; rfl) (zz (show (!((f82 0 (qz x)).getD f82d).y38) = true by rw [s82]; rfl) (zz (show (f83 0 (qz x)).isSome = true by rw [h]; rfl) (yz (show (!((f83 0 (qz x)).getD f83d).y38) = false by rw [h]; rfl) ?_))))))
 show some (S131.mk ((f83 0 (qz x)).getD f83d).y1 ((f83 0 (qz x)).getD f83d).y2 ((f83 0 (qz x)).getD f83d).y3 ((f83 0 (qz x)).getD f83d).y4 ((f83 0 (qz x)).getD f83d).y5 ((f83 0 (qz x)).getD f83d).y6 ((f83 0 (qz x)).getD f83d).y7 ((f83 0 (qz x)).getD f83d).y8 ((f83 0 (qz x)).getD f83d).y9 ((f83 0 (qz x)).getD f83d).y10 ((f83 0 (qz x)).getD f83d).y11 ((f83 0 (qz x)).getD f83d).y12 ((f83 0 (qz x)).getD f83d).y13 ((f83 0 (qz x)).getD f83d).y14 ((f83 0 (qz x)).getD f83d).y15 ((f83 0 (qz x)).getD f83d).y16 ((f83 0 (qz x)).getD f83d).y17 ((f83 0 (qz x)).getD f83d).y18 ((f83 0 (qz x)).getD f83d).y19 ((f83 0 (qz x)).getD f83d).y20 ((f83 0 (qz x)).getD f83d).y21 ((f83 0 (qz x)).getD f83d).y22 ((f83 0 (qz x)).getD f83d).y23 ((f83 0 (qz x)).getD f83d).y24 ((f83 0 (qz x)).getD f83d).y25 ((f83 0 (qz x)).getD f83d).y26 ((f83 0 (qz x)).getD f83d).y27 ((f83 0 (qz x)).getD f83d).y28 ((f83 0 (qz x)).getD f83d).y29 ((f83 0 (qz x)).getD f83d).y30 ((f83 0 (qz x)).getD f83d).y31 ((f83 0 (qz x)).getD f83d).y32 ((f83 0 (qz x)).getD f83d).y33 ((f83 0 (qz x)).getD f83d).y34 ((f83 0 (qz x)).getD f83d).y35 ((f83 0 (qz x)).getD f83d).y36 ((f83 0 (qz x)).getD f83d).y37) = some y
 rw [h]
 rfl
theorem zyI {x y : S131} (n0 : x.a16 ≠ 0) (n1 : x.a16 ≠ 1) (n13 : x.a16 ≠ 13) (n14 : x.a16 ≠ 14) (n15 : x.a16 ≠ 15) (n16 : x.a16 ≠ 16) (n3 : x.a16 ≠ 3) (n2 : x.a16 ≠ 2) (n25 : x.a16 ≠ 25) (h : f84 0 (qz x) = some (of84 y true)) : f79 0 x = some y := by
 have s81 : f81 0 (qz x) = some (of81 (qz x) false) := zzZ (show (qz x).a16 ≠ 1 from n1)
 have s82 : f82 0 (qz x) = some (of82 (qz x) false) := yzZ (show (qz x).a16 ≠ 13 from n13) (show (qz x).a16 ≠ 14 from n14) (show (qz x).a16 ≠ 15 from n15) (show (qz x).a16 ≠ 16 from n16)
 have s83 : f83 0 (qz x) = some (of83 (qz x) false) := qz4 (show (qz x).a16 ≠ 3 from n3) (show (qz x).a16 ≠ 2 from n2) (show (qz x).a16 ≠ 25 from n25)
 refine yz (yZ n0) (zz (show (f81 0 (qz x)).isSome = true by rw [s81]; rfl) (zz (show (!((f81 0 (qz x)).getD f81d).y38) = true by rw [s81]; rfl) (zz (show (f82 0 (qz x)).isSome = true by rw [s82]; rfl) (zz (show (!((f82 0 (qz x)).getD f82d).y38) = true by rw [s82]; rfl) (zz (show (f83 0 (qz x)).isSome = true by rw [s83]; rfl) (zz (show (!((f83 0 (qz x)).getD f83d).y38) = true by rw [s83]; rfl) (zz (show (f84 0 (qz x)).isSome = true by rw [h]; rfl) (yz (show (!((f84 0 (qz x)).getD f84d).y38) = false by rw [h]; rfl) ?_))))))))
 show some (S131.mk ((f84 0 (qz x)).getD f84d).y1 ((f84 0 (qz x)).getD f84d).y2 ((f84 0 (qz x)).getD f84d).y3 ((f84 0 (qz x)).getD f84d).y4 ((f84 0 (qz x)).getD f84d).y5 ((f84 0 (qz x)).getD f84d).y6 ((f84 0 (qz x)).getD f84d).y7 ((f84 0 (qz x)).getD f84d).y8 ((f84 0 (qz x)).getD f84d).y9 ((f84 0 (qz x)).getD f84d).y10 ((f84 0 (qz x)).getD f84d).y11 ((f84 0 (qz x)).getD f84d).y12 ((f84 0 (qz x)).getD f84d).y13 ((f84 0 (qz x)).getD f84d).y14 ((f84 0 (qz x)).getD f84d).y15 ((f84 0 (qz x)).getD f84d).y16 ((f84 0 (qz x)).getD f84d).y17 ((f84 0 (qz x)).getD f84d).y18 ((f84 0 (qz x)).getD f84d).y19 ((f84 0 (qz x)).getD f84d).y20 ((f84 0 (qz x)).getD f84d).y21 ((f84 0 (qz x)).getD f84d).y22 ((f84 0 (qz x)).getD f84d).y23 ((f84 0 (qz x)).getD f84d).y24 ((f84 0 (qz x)).getD f84d).y25 ((f84 0 (qz x)).getD f84d).y26 ((f84 0 (qz x)).getD f84d).y27 ((f84 0 (qz x)).getD f84d).y28 ((f84 0 (qz x)).getD f84d).y29 ((f84 0 (qz x)).getD f84d).y30 ((f84 0 (qz x)).getD f84d).y31 ((f84 0 (qz x)).getD f84d).y32 ((f84 0 (qz x)).getD f84d).y33 ((f84 0 (qz x)).getD f84d).y34 ((f84 0 (qz x)).getD f84d).y35 ((f84 0 (qz x)).getD f84d).y36 ((f84 0 (qz x)).getD f84d).y37) = some y
 rw [h]
 rfl
theorem yyI {x y : S131} (n0 : x.a16 ≠ 0) (n1 : x.a16 ≠ 1) (n13 : x.a16 ≠ 13) (n14 : x.a16 ≠ 14) (n15 : x.a16 ≠ 15) (n16 : x.a16 ≠ 16) (n3 : x.a16 ≠ 3) (n2 : x.a16 ≠ 2) (n25 : x.a16 ≠ 25) (n4 : x.a16 ≠ 4) (n6 : x.a16 ≠ 6) (n5 : x.a16 ≠ 5) (d : 0 ≤ x.a3) (h : f85 0 (qz x) = some (of85 y true)) : f79 0 x = some y := by
 have s81 : f81 0 (qz x) = some (of81 (qz x) false) := zzZ (show (qz x).a16 ≠ 1 from n1)
 have s82 : f82 0 (qz x) = some (of82 (qz x) false) := yzZ (show (qz x).a16 ≠ 13 from n13) (show (qz x).a16 ≠ 14 from n14) (show (qz x).a16 ≠ 15 from n15) (show (qz x).a16 ≠ 16 from n16)
 have s83 : f83 0 (qz x) = some (of83 (qz x) false) := qz4 (show (qz x).a16 ≠ 3 from n3) (show (qz x).a16 ≠ 2 from n2) (show (qz x).a16 ≠ 25 from n25)
 have s84 : f84 0 (qz x) = some (of84 (qz x) false) := Yyd (show 0 ≤ (qz x).a3 from d) (show (qz x).a16 ≠ 4 from n4) (show (qz x).a16 ≠ 6 from n6) (show (qz x).a16 ≠ 5 from n5)
 refine yz (yZ n0) (zz (show (f81 0 (qz x)).isSome = true by rw [s81]; rfl) (zz (show (!((f81 0 (qz x)).getD f81d).y38) = true by rw [s81]; rfl) (zz (show (f82 0 (qz x)).isSome = true by rw [s82]; rfl) (zz (show (!((f82 0 (qz x)).getD f82d).y38) = true by rw [s82]; rfl) (zz (show (f83 0 (qz x)).isSome = true by rw [s83]; rfl) (zz (show (!((f83 0 (qz x)).getD f83d).y38) = true by rw [s83]; rfl) (zz (show (f84 0 (qz x)).isSome = true by rw [s84]; rfl) (zz (show (!((f84 0 (qz x)).getD f84d).y38) = true by rw [s84]; rfl) (zz (show (f85 0 (qz x)).isSome = true by rw [h]; rfl) (yz (show (!((f85 0 (qz x)).getD f85d).y38) = false by rw [h]; rfl) ?_))))))))))
 show some (S131.mk ((f85 0 (qz x)).getD f85d).y1 ((f85 0 (qz x)).getD f85d).y2 ((f85 0 (qz x)).getD f85d).y3 ((f85 0 (qz x)).getD f85d).y4 ((f85 0 (qz x)).getD f85d).y5 ((f85 0 (qz x)).getD f85d).y6 ((f85 0 (qz x)).getD f85d).y7 ((f85 0 (qz x)).getD f85d).y8 ((f85 0 (qz x)).getD f85d).y9 ((f85 0 (qz x)).getD f85d).y10 ((f85 0 (qz x)).getD f85d).y11 ((f85 0 (qz x)).getD f85d).y12 ((f85 0 (qz x)).getD f85d).y13 ((f85 0 (qz x)).getD f85d).y14 ((f85 0 (qz x)).getD f85d).y15 ((f85 0 (qz x)).getD f85d).y16 ((f85 0 (qz x)).getD f85d).y17 ((f85 0 (qz x)).getD f85d).y18 ((f85 0 (qz x)).getD f85d).y19 ((f85 0 (qz x)).getD f85d).y20 ((f85 0 (qz x)).getD f85d).y21 ((f85 0 (qz x)).getD f85d).y22 ((f85 0 (qz x)).getD f85d).y23 ((f85 0 (qz x)).getD f85d).y24 ((f85 0 (qz x)).getD f85d).y25 ((f85 0 (qz x)).getD f85d).y26 ((f85 0 (qz x)).getD f85d).y27 ((f85 0 (qz x)).getD f85d).y28 ((f85 0 (qz x)).getD f85d).y29 ((f85 0 (qz x)).getD f85d).y30 ((f85 0 (qz x)).getD f85d).y31 ((f85 0 (qz x)).getD f85d).y32 ((f85 0 (qz x)).getD f85d).y33 ((f85 0 (qz x)).getD f85d).y34 ((f85 0 (qz x)).getD f85d).y35 ((f85 0 (qz x)).getD f85d).y36 ((f85 0 (qz x)).getD f85d).y37) = some y
 rw [h]
 rfl
theorem qyI {x y : S131} (n0 : x.a16 ≠ 0) (n1 : x.a16 ≠ 1) (n13 : x.a16 ≠ 13) (n14 : x.a16 ≠ 14) (n15 : x.a16 ≠ 15) (n16 : x.a16 ≠ 16) (n3 : x.a16 ≠ 3) (n2 : x.a16 ≠ 2) (n25 : x.a16 ≠ 25) (n4 : x.a16 ≠ 4) (n6 : x.a16 ≠ 6) (n5 : x.a16 ≠ 5) (n7 : x.a16 ≠ 7) (n8 : x.a16 ≠ 8) (n9 : x.a16 ≠ 9) (n10 : x.a16 ≠ 10) (n11 : x.a16 ≠ 11) (n12 : x.a16 ≠ 12) (d : 0 ≤ x.a3) (h : f86 0 (qz x) = some (of86 y true)) : f79 0 x = some y := by
 have s81 : f81 0 (qz x) = some (of81 (qz x) false) := zzZ (show (qz x).a16 ≠ 1 from n1)
 have s82 : f82 0 (qz x) = some (of82 (qz x) false) := yzZ (show (qz x).a16 ≠ 13 from n13) (show (qz x).a16 ≠ 14 from n14) (show (qz x).a16 ≠ 15 from n15) (show (qz x).a16 ≠ 16 from n16)
 have s83 : f83 0 (qz x) = some (of83 (qz x) false) := qz4 (show (qz x).a16 ≠ 3 from n3) (show (qz x).a16 ≠ 2 from n2) (show (qz x).a16 ≠ 25 from n25)
 have s84 : f84 0 (qz x) = some (of84 (qz x) false) := Yyd (show 0 ≤ (qz x).a3 from d) (show (qz x).a16 ≠ 4 from n4) (show (qz x).a16 ≠ 6 from n6) (show (qz x).a16 ≠ 5 from n5)
 have s85 : f85 0 (qz x) = some (of85 (qz x) false) := QyJ (show (qz x).a16 ≠ 7 from n7) (show (qz x).a16 ≠ 8 from n8) (show (qz x).a16 ≠ 9 from n9) (show (qz x).a16 ≠ 10 from n10) (show (qz x).a16 ≠ 11 from n11) (show (qz x).a16 ≠ 12 from n12)
 refine yz (yZ n0) (zz (show (f81 0 (qz x)).isSome = true by rw [s81]; rfl) (zz (show (!((f81 0 (qz x)).getD f81d).y38) = true by rw [s81]; rfl) (zz (show (f82 0 (qz x)).isSome = true by rw [s82]; rfl) (zz (show (!((f82 0 (qz x)).getD f82d).y38) = true by rw [s82]; rfl) (zz (show (f83 0 (qz x)).isSome = true by rw [s83]; rfl) (zz (show (!((f83 0 (qz x)).getD f83d).y38) = true by rw [s83]; rfl) (zz (show (f84 0 (qz x)).isSome = true by rw [s84]; rfl) (zz (show (!((f84 0 (qz x)).getD f84d).y38) = true by rw [s84]; rfl) (zz (show (f85 0 (qz x)).isSome = true by rw [s85]; rfl) (zz (show (!((f85 0 (qz x)).getD f85d).y38) = true by rw [s85]; rfl) (zz (show (f86 0 (qz x)).isSome = true by rw [h]; rfl) (yz (show (!((f86 0 (qz x)).getD f86d).y38) = false by rw [h]; rfl) ?_))))))))))))
 show some (S131.mk ((f86 0 (qz x)).getD f86d).y1 ((f86 0 (qz x)).getD f86d).y2 ((f86 0 (qz x)).getD f86d).y3 ((f86 0 (qz x)).getD f86d).y4 ((f86 0 (qz x)).getD f86d).y5 ((f86 0 (qz x)).getD f86d).y6 ((f86 0 (qz x)).getD f86d).y7 ((f86 0 (qz x)).getD f86d).y8 ((f86 0 (qz x)).getD f86d).y9 ((f86 0 (qz x)).getD f86d).y10 ((f86 0 (qz x)).getD f86d).y11 ((f86 0 (qz x)).getD f86d).y12 ((f86 0 (qz x)).getD f86d).y13 ((f86 0 (qz x)).getD f86d).y14 ((f86 0 (qz x)).getD f86d).y15 ((f86 0 (qz x)).getD f86d).y16 ((f86 0 (qz x)).getD f86d).y17 ((f86 0 (qz x)).getD f86d).y18 ((f86 0 (qz x)).getD f86d).y19 ((f86 0 (qz x)).getD f86d).y20 ((f86 0 (qz x)).getD f86d).y21 ((f86 0 (qz x)).getD f86d).y22 ((f86 0 (qz x)).getD f86d).y23 ((f86 0 (qz x)).getD f86d).y24 ((f86 0 (qz x)).getD f86d).y25 ((f86 0 (qz x)).getD f86d).y26 ((f86 0 (qz x)).getD f86d).y27 ((f86 0 (qz x)).getD f86d).y28 ((f86 0 (qz x)).getD f86d).y29 ((f86 0 (qz x)).getD f86d).y30 ((f86 0 (qz x)).getD f86d).y31 ((f86 0 (qz x)).getD f86d).y32 ((f86 0 (qz x)).getD f86d).y33 ((f86 0 (qz x)).getD f86d).y34 ((f86 0 (qz x)).getD f86d).y35 ((f86 0 (qz x)).getD f86d).y36 ((f86 0 (qz x)).getD f86d).y37) = some y
 rw [h]
 rfl
set_option maxRecDepth 10000
structure Turn (x : S131) : Prop where
 may : May (cfg x)
 t0 : 0 ≤ x.a12
 t1 : x.a12 < x.a0
 i0 : 0 ≤ x.a17
 i1 : x.a17 < x.a1
 words : (x.a14.length : Int) = yh (cfg x)
 boxes : (x.a15.length : Int) = x.a0
 log : x.a35 = []
 done : x.a36 = false
theorem Turn.fresh {x : S131} (h : Turn x) : qz x = x := by
 cases x
 have h1 := h.log; have h2 := h.done
 simp only at h1 h2
 subst h1 h2
 rfl
theorem jz4 {c : S23} (m : May c) : yh c ≤ 192 := by
 have hb := qn m
 have hm := Jf (i := c.a1) (by have := m.it; omega) hb.2
 have ht := m.th
 unfold yh; omega
theorem Turn.len {x : S131} (h : Turn x) : x.a14.length ≤ 1000 := by have := jz4 h.may; have := h.words; omega
theorem qh {x : S131} (h : Turn x) : f88 0 (cfg x) x.a12 = some ⟨qx (cfg x) x.a12⟩ := Zza h.may h.t0 h.t1
theorem Turn.line {x : S131} (h : Turn x) : 0 ≤ qx (cfg x) x.a12 ∧ qx (cfg x) x.a12 < (x.a14.length : Int) := by
 have := Zg h.may h.t0 h.t1; have := h.words; omega
theorem Turn.cell {x : S131} (h : Turn x) : 0 ≤ Zv (cfg x) x.a17 ∧ Zv (cfg x) x.a17 < (x.a14.length : Int) := by
 have := Zd h.may h.i0 h.i1; have := h.words; omega
theorem Jd {x y : S131} (a : 17 ≤ x.a16) (b : x.a16 ≠ 25) (d : 0 ≤ x.a3) (h : f86 0 (qz x) = some (of86 y true)) : f79 0 x = some y :=
 qyI (by omega) (by omega) (by omega) (by omega) (by omega) (by omega) (by omega) (by omega) (by omega) (by omega) (by omega) (by omega) (by omega) (by omega) (by omega) (by omega) (by omega) (by omega) d h
theorem Zz4 {x y : S131} (a : 7 ≤ x.a16) (b : x.a16 ≤ 12) (d : 0 ≤ x.a3) (h : f85 0 (qz x) = some (of85 y true)) : f79 0 x = some y :=
 yyI (by omega) (by omega) (by omega) (by omega) (by omega) (by omega) (by omega) (by omega) (by omega) (by omega) (by omega) (by omega) d h
theorem Yz4 {x y : S131} (a : 4 ≤ x.a16) (b : x.a16 ≤ 6) (h : f84 0 (qz x) = some (of84 y true)) : f79 0 x = some y :=
 zyI (by omega) (by omega) (by omega) (by omega) (by omega) (by omega) (by omega) (by omega) (by omega) h
theorem Qzj {x y : S131} (a : 2 ≤ x.a16) (b : x.a16 ≤ 3) (h : f83 0 (qz x) = some (of83 y true)) : f79 0 x = some y :=
 JyJ (by omega) (by omega) (by omega) (by omega) (by omega) (by omega) h
section
variable {x : S131}
def clr (x : S131) : List (List PV) := wSet x.a14 (qx (cfg x) x.a12) 0
theorem jh (h : Turn x) : f87 0 (memS x) (qx (cfg x) x.a12) 0 = some ⟨clr x, x.a15, 0⟩ := jzr x.a14 x.a15 0 h.len h.line.1 h.line.2
theorem JzR (h : Turn x) (hp : x.a16 = 1) (hb : x.a2 = 2) (hd : 0 < x.a3) : f79 0 x = some { x with a14 := clr x, a16 := 4 } := by
 have hl := qh h
 have hs := jh h
 refine Zzr (by omega) ?_
 rw [h.fresh]
 refine yz (JG hp) (zz (show (f88 0 (cfg x) x.a12).isSome = true by rw [hl]; rfl) (zz (show (f87 0 (memS x) ((f88 0 (cfg x) x.a12).getD f88d).y1 0).isSome = true by rw [hl]; exact hs ▸ rfl) (yz (show (((f87 0 (memS x) ((f88 0 (cfg x) x.a12).getD f88d).y1 0).getD f87d).y3 != 0) = false by rw [hl]; exact hs ▸ rfl) ?_)))
 refine zz (Qm hb) (zz (decide_eq_true hd) ?_)
 show some (of81 { x with a14 := ((f87 0 (memS x) ((f88 0 (cfg x) x.a12).getD f88d).y1 0).getD f87d).y1, a15 := ((f87 0 (memS x) ((f88 0 (cfg x) x.a12).getD f88d).y1 0).getD f87d).y2, a16 := 4 } true) = _
 rw [hl]
 show some (of81 { x with a14 := ((f87 0 (memS x) (qx (cfg x) x.a12) 0).getD f87d).y1, a15 := ((f87 0 (memS x) (qx (cfg x) x.a12) 0).getD f87d).y2, a16 := 4 } true) = _
 rw [hs]
 rfl
theorem Qz4 (h : Turn x) (hp : x.a16 = 1) (hb : x.a2 = 3) (hd : 0 < x.a4) : f79 0 x = some { x with a14 := clr x, a16 := 17, a26 := 1 } := by
 have hl := qh h
 have hs := jh h
 refine Zzr (by omega) ?_
 rw [h.fresh]
 refine yz (JG hp) (zz (show (f88 0 (cfg x) x.a12).isSome = true by rw [hl]; rfl) (zz (show (f87 0 (memS x) ((f88 0 (cfg x) x.a12).getD f88d).y1 0).isSome = true by rw [hl]; exact hs ▸ rfl) (yz (show (((f87 0 (memS x) ((f88 0 (cfg x) x.a12).getD f88d).y1 0).getD f87d).y3 != 0) = false by rw [hl]; exact hs ▸ rfl) ?_)))
 refine yz (qw (by omega)) (zz (Qm hb) (zz (decide_eq_true hd) ?_))
 show some (of81 { x with a14 := ((f87 0 (memS x) ((f88 0 (cfg x) x.a12).getD f88d).y1 0).getD f87d).y1, a15 := ((f87 0 (memS x) ((f88 0 (cfg x) x.a12).getD f88d).y1 0).getD f87d).y2, a16 := 17, a26 := 1 } true) = _
 rw [hl]
 show some (of81 { x with a14 := ((f87 0 (memS x) (qx (cfg x) x.a12) 0).getD f87d).y1, a15 := ((f87 0 (memS x) (qx (cfg x) x.a12) 0).getD f87d).y2, a16 := 17, a26 := 1 } true) = _
 rw [hs]
 rfl
theorem zzQ (h : Turn x) (hp : x.a16 = 1) (hb : x.a2 = 1) : f79 0 x = some { x with a14 := clr x, a16 := 2 } := by
 have hl := qh h
 have hs := jh h
 refine Zzr (by omega) ?_
 rw [h.fresh]
 refine yz (JG hp) (zz (show (f88 0 (cfg x) x.a12).isSome = true by rw [hl]; rfl) (zz (show (f87 0 (memS x) ((f88 0 (cfg x) x.a12).getD f88d).y1 0).isSome = true by rw [hl]; exact hs ▸ rfl) (yz (show (((f87 0 (memS x) ((f88 0 (cfg x) x.a12).getD f88d).y1 0).getD f87d).y3 != 0) = false by rw [hl]; exact hs ▸ rfl) ?_)))
 refine yz (qw (by omega)) (yz (qw (by omega)) ?_)
 show some (of81 { x with a14 := ((f87 0 (memS x) ((f88 0 (cfg x) x.a12).getD f88d).y1 0).getD f87d).y1, a15 := ((f87 0 (memS x) ((f88 0 (cfg x) x.a12).getD f88d).y1 0).getD f87d).y2, a16 := 2 } true) = _
 rw [hl]
 show some (of81 { x with a14 := ((f87 0 (memS x) (qx (cfg x) x.a12) 0).getD f87d).y1, a15 := ((f87 0 (memS x) (qx (cfg x) x.a12) 0).getD f87d).y2, a16 := 2 } true) = _
 rw [hs]
 rfl
theorem yzQ (h : Turn x) (hp : x.a16 = 1) (hb : x.a2 = 2) (hd : x.a3 = 0) : f79 0 x = some { x with a14 := clr x, a16 := 2 } := by
 have hl := qh h
 have hs := jh h
 refine Zzr (by omega) ?_
 rw [h.fresh]
 refine yz (JG hp) (zz (show (f88 0 (cfg x) x.a12).isSome = true by rw [hl]; rfl) (zz (show (f87 0 (memS x) ((f88 0 (cfg x) x.a12).getD f88d).y1 0).isSome = true by rw [hl]; exact hs ▸ rfl) (yz (show (((f87 0 (memS x) ((f88 0 (cfg x) x.a12).getD f88d).y1 0).getD f87d).y3 != 0) = false by rw [hl]; exact hs ▸ rfl) ?_)))
 refine zz (Qm hb) (yz (decide_eq_false (by omega)) (yz (qw (by omega)) ?_))
 show some (of81 { x with a14 := ((f87 0 (memS x) ((f88 0 (cfg x) x.a12).getD f88d).y1 0).getD f87d).y1, a15 := ((f87 0 (memS x) ((f88 0 (cfg x) x.a12).getD f88d).y1 0).getD f87d).y2, a16 := 2 } true) = _
 rw [hl]
 show some (of81 { x with a14 := ((f87 0 (memS x) (qx (cfg x) x.a12) 0).getD f87d).y1, a15 := ((f87 0 (memS x) (qx (cfg x) x.a12) 0).getD f87d).y2, a16 := 2 } true) = _
 rw [hs]
 rfl
theorem qzQ (h : Turn x) (hp : x.a16 = 1) (hb : x.a2 = 3) (hd : x.a4 = 0) : f79 0 x = some { x with a14 := clr x, a16 := 2 } := by
 have hl := qh h
 have hs := jh h
 refine Zzr (by omega) ?_
 rw [h.fresh]
 refine yz (JG hp) (zz (show (f88 0 (cfg x) x.a12).isSome = true by rw [hl]; rfl) (zz (show (f87 0 (memS x) ((f88 0 (cfg x) x.a12).getD f88d).y1 0).isSome = true by rw [hl]; exact hs ▸ rfl) (yz (show (((f87 0 (memS x) ((f88 0 (cfg x) x.a12).getD f88d).y1 0).getD f87d).y3 != 0) = false by rw [hl]; exact hs ▸ rfl) ?_)))
 refine yz (qw (by omega)) (zz (Qm hb) (yz (decide_eq_false (by omega)) ?_))
 show some (of81 { x with a14 := ((f87 0 (memS x) ((f88 0 (cfg x) x.a12).getD f88d).y1 0).getD f87d).y1, a15 := ((f87 0 (memS x) ((f88 0 (cfg x) x.a12).getD f88d).y1 0).getD f87d).y2, a16 := 2 } true) = _
 rw [hl]
 show some (of81 { x with a14 := ((f87 0 (memS x) (qx (cfg x) x.a12) 0).getD f87d).y1, a15 := ((f87 0 (memS x) (qx (cfg x) x.a12) 0).getD f87d).y2, a16 := 2 } true) = _
 rw [hs]
 rfl
noncomputable def qj (x : S131) : Int := wAt x.a14 (Zv (cfg x) x.a17)
noncomputable def zT (x : S131) : Int := zH x.a20 (qj x) x.a9 x.a10
theorem qzZ (h : Turn x) (hb : x.a20.length ≤ 1000) : f94 0 x = some ⟨qj x, zT x, 0⟩ := by
 have hc : f34 0 (cfg x) x.a17 = some ⟨Zv (cfg x) x.a17⟩ := yM h.may h.i0 h.i1
 have hl : f33 0 (memS x) (Zv (cfg x) x.a17) = some ⟨qj x, 0⟩ := JU x.a14 x.a15 h.cell.1 h.cell.2
 refine zz (show (f34 0 (cfg x) x.a17).isSome = true by rw [hc]; rfl) (zz (show (f33 0 (memS x) ((f34 0 (cfg x) x.a17).getD f34d).y1).isSome = true by rw [hc]; exact hl ▸ rfl) (zz (decide_eq_true (by omega)) ?_))
 show some (f94o.r0 ((f33 0 (memS x) ((f34 0 (cfg x) x.a17).getD f34d).y1).getD f33d).y1 (zH x.a20 ((f33 0 (memS x) ((f34 0 (cfg x) x.a17).getD f34d).y1).getD f33d).y1 x.a9 x.a10) ((f33 0 (memS x) ((f34 0 (cfg x) x.a17).getD f34d).y1).getD f33d).y2) = _
 rw [hc]
 show some (f94o.r0 ((f33 0 (memS x) (Zv (cfg x) x.a17)).getD f33d).y1 (zH x.a20 ((f33 0 (memS x) (Zv (cfg x) x.a17)).getD f33d).y1 x.a9 x.a10) ((f33 0 (memS x) (Zv (cfg x) x.a17)).getD f33d).y2) = _
 rw [hl]
 rfl
theorem jzZ (h : Turn x) (hb : x.a20.length ≤ 1000) : Y9 x = true := by
 unfold Y9
 rw [h.log, decide_eq_true hb]
 rfl
theorem Z2 (hk : x.a21 = []) (v : Int) : zj x v = { x with a16 := 0, a25 := 0, a30 := v, a35 := qzs x v, a36 := true } := by
 unfold zj yH
 have : (decide ((0 : Int) ≤ 0) && decide ((0 : Int) < (x.a21.length : Int))) = false := by rw [hk]; rfl
 show (bif (decide ((0 : Int) ≤ 0) && decide ((0 : Int) < (x.a21.length : Int))) then _ else _) = _
 rw [this]
 rfl
theorem Jz4 (h : Turn x) (hp : x.a16 = 2) (hb : x.a20.length ≤ 1000) (hk : x.a21 = []) (hy : zT x = qj x) : f79 0 x = some { x with a16 := 0, a25 := 0, a30 := qj x, a35 := qzs x (qj x), a36 := true } := by
 have hl := qzZ h hb
 refine Qzj (by omega) (by omega) ?_
 rw [h.fresh]
 refine yz (qw (by omega)) (yz (JG hp) (zz (by rw [hl]; rfl) (yz (by rw [hl]; rfl) (zz (by rw [hl]; show (qj x == qj x && (zT x == qj x && true)) = true; rw [hy]; simp) (zz (jzZ h hb) ?_)))))
 rw [hl]
 show some (of83 (zj x (qj x)) true) = _
 rw [Z2 hk]
theorem zz5 (h : Turn x) (hp : x.a16 = 2) (hb : x.a20.length ≤ 1000) (hy : zT x ≠ qj x) : f79 0 x = some { x with a16 := 3, a30 := qj x, a31 := zT x } := by
 have hl := qzZ h hb
 refine Qzj (by omega) (by omega) ?_
 rw [h.fresh]
 refine yz (qw (by omega)) (yz (JG hp) (zz (by rw [hl]; rfl) (yz (by rw [hl]; rfl) (yz (by rw [hl]; show (qj x == qj x && (zT x == qj x && true)) = false; rw [qw hy]; simp) (yz (qw (by omega)) ?_)))))
 rw [hl]
 rfl
theorem Zyo (h : Turn x) (hp : x.a16 = 3) (hb : x.a20.length ≤ 1000) (hk : x.a21 = []) (hx : x.a30 = qj x) : f79 0 x = some { x with a14 := wSet x.a14 (Zv (cfg x) x.a17) x.a31, a16 := 0, a25 := 0, a35 := qzs x x.a30, a36 := true } := by
 have hc : f34 0 (cfg x) x.a17 = some ⟨Zv (cfg x) x.a17⟩ := yM h.may h.i0 h.i1
 have hs : f102 0 (memS x) (Zv (cfg x) x.a17) x.a30 x.a31 = some ⟨wSet x.a14 (Zv (cfg x) x.a17) x.a31, x.a15, true, 0⟩ := QG x.a14 x.a15 x.a30 x.a31 h.len h.cell.1 h.cell.2 hx.symm
 refine Qzj (by omega) (by omega) ?_
 rw [h.fresh]
 refine zz (Qm hp) (zz (show (f34 0 (cfg x) x.a17).isSome = true by rw [hc]; rfl) ?_)
 rw [hc]
 refine zz (show (f102 0 (memS x) (Zv (cfg x) x.a17) x.a30 x.a31).isSome = true by rw [hs]; rfl) (yz (show (((f102 0 (memS x) (Zv (cfg x) x.a17) x.a30 x.a31).getD Yx).y4 != 0) = false by rw [hs]; rfl) (zz (show ((f102 0 (memS x) (Zv (cfg x) x.a17) x.a30 x.a31).getD Yx).y3 = true by rw [hs]; rfl) ?_))
 refine zz (show Y9 { x with a14 := ((f102 0 (memS x) (Zv (cfg x) x.a17) x.a30 x.a31).getD Yx).y1, a15 := ((f102 0 (memS x) (Zv (cfg x) x.a17) x.a30 x.a31).getD Yx).y2 } = true by have q := jzZ h hb; exact q) ?_
 show some (of83 (zj { x with a14 := ((f102 0 (memS x) (Zv (cfg x) x.a17) x.a30 x.a31).getD Yx).y1, a15 := ((f102 0 (memS x) (Zv (cfg x) x.a17) x.a30 x.a31).getD Yx).y2 } x.a30) true) = _
 rw [hs]
 show some (of83 (zj { x with a14 := wSet x.a14 (Zv (cfg x) x.a17) x.a31, a15 := x.a15 } x.a30) true) = _
 rw [Z2 (x := { x with a14 := wSet x.a14 (Zv (cfg x) x.a17) x.a31, a15 := x.a15 }) hk]
 rfl
end
set_option maxRecDepth 10000
noncomputable def jt (t : Int) : Int := ((f99 0 t).getD f99d).y0
noncomputable def upN (n : Int) : Int := ((f124 0 n).getD Q8).y0
theorem yyR {n : Int} (h : 0 ≤ n) : upN n = n / 2 := by
 show (if n < 0 then 0 else n).fdiv ((2 : Int) ^ (1 : Nat)) = n / 2
 rw [if_neg (by omega)]
 show n.fdiv 2 = n / 2
 rw [Int.fdiv_eq_ediv_of_nonneg _ (by omega)]
section
variable {x : S131}
theorem Turn.node (h : Turn x) {n : Int} (h1 : 1 ≤ n) (h2 : n < pw x.a3) : 0 ≤ Zw (cfg x) x.a17 n ∧ Zw (cfg x) x.a17 n < (x.a14.length : Int) := by
 have := Yd h.may h.i0 h.i1 h1 h2; have := h.words; omega
theorem yz5 (x : S131) : f103 0 x 0 = some { x with a16 := 5 } :=
 zz (by kernel_rfl) (yz (by kernel_rfl) (zz (by kernel_rfl) rfl))
theorem jzQ (h : Turn x) (hp : x.a16 = 4) (h1 : 1 ≤ x.a24) (h2 : x.a24 < pw x.a3) (hz : wAt x.a14 (Zw (cfg x) x.a17 x.a24) = 0) : f79 0 x = some { x with a16 := 5 } := by
 have hv : f98V (cfg x) x.a17 x.a24 = Zw (cfg x) x.a17 x.a24 := zzz h.may h.i0 h.i1 h1 h2
 have hl : f33 0 (memS x) (Zw (cfg x) x.a17 x.a24) = some ⟨0, 0⟩ := by rw [JU x.a14 x.a15 (h.node h1 h2).1 (h.node h1 h2).2, hz]
 refine Yz4 (by omega) (by omega) ?_
 rw [h.fresh]
 refine zz (decide_eq_true h.may.de.1) (zz (Qm hp) ?_)
 rw [hv]
 refine zz (show (f33 0 (memS x) (Zw (cfg x) x.a17 x.a24)).isSome = true by rw [hl]; rfl) (yz (show (((f33 0 (memS x) (Zw (cfg x) x.a17 x.a24)).getD f33d).y2 != 0) = false by rw [hl]; rfl) ?_)
 have hq : f103 0 x ((f33 0 (memS x) (Zw (cfg x) x.a17 x.a24)).getD f33d).y1 = some { x with a16 := 5 } := by rw [hl]; exact yz5 x
 refine zz (show (f103 0 x ((f33 0 (memS x) (Zw (cfg x) x.a17 x.a24)).getD f33d).y1).isSome = true by rw [hq]; rfl) ?_
 show some (of84 ((f103 0 x ((f33 0 (memS x) (Zw (cfg x) x.a17 x.a24)).getD f33d).y1).getD jys) true) = _
 rw [hq]
 rfl
theorem Yyo (y : S131) (hl : y.a22.length ≤ 1000) (hu : 0 < upN y.a24) : f100 0 y = some { y with a22 := y.a22 ++ [[PV.int .i64 y.a24]], a24 := upN y.a24 } :=
 zz (decide_eq_true (show y.a22.length ≤ 1000000 by omega)) (zz (decide_eq_true (show y.a22.length + 1 ≤ 1000000 by omega)) (zz (decide_eq_true hu) rfl))
theorem qz5 (y : S131) (hl : y.a22.length ≤ 1000) (hu : upN y.a24 = 0) (hs : y.a23 = 0) : f100 0 y = some { y with a16 := 7, a22 := y.a22 ++ [[PV.int .i64 y.a24]], a24 := 0, a25 := 0 } := by
 refine zz (decide_eq_true (show y.a22.length ≤ 1000000 by omega)) (zz (decide_eq_true (show y.a22.length + 1 ≤ 1000000 by omega)) (yz (decide_eq_false (show ¬ upN y.a24 > 0 by omega)) (yz (decide_eq_false (by omega)) (zz (decide_eq_true (by simp)) ?_))))
 show some { y with a16 := 7, a22 := y.a22 ++ [[PV.int .i64 y.a24]], a24 := upN y.a24, a25 := 0 } = _
 rw [hu]
theorem Yzr (h : Turn x) (hp : x.a16 = 5) (h1 : 1 ≤ x.a24) (h2 : x.a24 < pw x.a3) (hz : wAt x.a14 (Zw (cfg x) x.a17 x.a24) = 0) {y : S131} (hy : f100 0 { x with a14 := wSet x.a14 (Zw (cfg x) x.a17 x.a24) (jt x.a12), a16 := 4 } = some y) : f79 0 x = some y := by
 have hv : f98V (cfg x) x.a17 x.a24 = Zw (cfg x) x.a17 x.a24 := zzz h.may h.i0 h.i1 h1 h2
 have hs : f102 0 (memS x) (Zw (cfg x) x.a17 x.a24) 0 (jt x.a12) = some ⟨wSet x.a14 (Zw (cfg x) x.a17 x.a24) (jt x.a12), x.a15, true, 0⟩ := QG x.a14 x.a15 0 (jt x.a12) h.len (h.node h1 h2).1 (h.node h1 h2).2 hz
 refine Yz4 (by omega) (by omega) ?_
 rw [h.fresh]
 refine zz (decide_eq_true h.may.de.1) (yz (qw (by omega)) (yz (qw (by omega)) (zz (Qm hp) ?_)))
 rw [hv]
 refine zz (show (f102 0 (memS x) (Zw (cfg x) x.a17 x.a24) 0 (jt x.a12)).isSome = true by rw [hs]; rfl) (yz (show (((f102 0 (memS x) (Zw (cfg x) x.a17 x.a24) 0 (jt x.a12)).getD Yx).y4 != 0) = false by rw [hs]; rfl) (zz (show ((f102 0 (memS x) (Zw (cfg x) x.a17 x.a24) 0 (jt x.a12)).getD Yx).y3 = true by rw [hs]; rfl) ?_))
 have hq : f100 0 { x with a14 := ((f102 0 (memS x) (Zw (cfg x) x.a17 x.a24) 0 (jt x.a12)).getD Yx).y1, a15 := ((f102 0 (memS x) (Zw (cfg x) x.a17 x.a24) 0 (jt x.a12)).getD Yx).y2, a16 := 4 } = some y := by rw [hs]; exact hy
 refine zz (show (f100 0 { x with a14 := ((f102 0 (memS x) (Zw (cfg x) x.a17 x.a24) 0 (jt x.a12)).getD Yx).y1, a15 := ((f102 0 (memS x) (Zw (cfg x) x.a17 x.a24) 0 (jt x.a12)).getD Yx).y2, a16 := 4 }).isSome = true by rw [hq]; rfl) ?_
 show some (of84 ((f100 0 { x with a14 := ((f102 0 (memS x) (Zw (cfg x) x.a17 x.a24) 0 (jt x.a12)).getD Yx).y1, a15 := ((f102 0 (memS x) (Zw (cfg x) x.a17 x.a24) 0 (jt x.a12)).getD Yx).y2, a16 := 4 }).getD Jys) true) = _
 rw [hq]
 rfl
noncomputable def Yn (x : S131) : Int := pInt ((x.a22.getD x.a25.toNat []).headD PV.undef)
theorem ZzZ (h : Turn x) (ha : 0 ≤ x.a25) (hb : x.a25 < (x.a22.length : Int)) (h1 : 1 ≤ Yn x) (h2 : Yn x < pw x.a3) : f143 0 x = some ⟨Zw (cfg x) x.a17 (Yn x)⟩ := by
 have hv : f98V (cfg x) x.a17 (Yn x) = Zw (cfg x) x.a17 (Yn x) := zzz h.may h.i0 h.i1 h1 h2
 refine yz (decide_eq_false (by omega)) (yz (decide_eq_false (by omega)) (zz (by rw [decide_eq_true ha, decide_eq_true hb]; rfl) (zz (decide_eq_true h.may.de.1) ?_)))
 show some (f143o.r0 (f98V (cfg x) x.a17 (Yn x))) = _
 rw [hv]
theorem Jzj (h : Turn x) (hp : x.a16 = 7) (ha : 0 ≤ x.a25) (hb : x.a25 < (x.a22.length : Int)) (h1 : 1 ≤ Yn x) (h2 : Yn x < pw x.a3) (hz : wAt x.a14 (Zw (cfg x) x.a17 (Yn x)) = jt x.a12) : f79 0 x = some { x with a16 := 8 } := by
 have hh := ZzZ h ha hb h1 h2
 have hl : f33 0 (memS x) (Zw (cfg x) x.a17 (Yn x)) = some ⟨jt x.a12, 0⟩ := by rw [JU x.a14 x.a15 (h.node h1 h2).1 (h.node h1 h2).2, hz]
 refine Zz4 (by omega) (by omega) h.may.de.1 ?_
 rw [h.fresh]
 refine zz (Qm hp) (zz (by rw [hh]; rfl) ?_)
 rw [hh]
 refine zz (show (f33 0 (memS x) (Zw (cfg x) x.a17 (Yn x))).isSome = true by rw [hl]; rfl) (yz (show (((f33 0 (memS x) (Zw (cfg x) x.a17 (Yn x))).getD f33d).y2 != 0) = false by rw [hl]; rfl) (zz (show (((f33 0 (memS x) (Zw (cfg x) x.a17 (Yn x))).getD f33d).y1 == jt x.a12) = true by rw [hl]; simp) rfl))
theorem jz5 (y : S131) (hs : y.a23 = 0) (ha : 0 ≤ y.a25) (hb : y.a25 < (y.a22.length : Int)) : f141 0 y = some { y with a16 := 7 } :=
 yz (decide_eq_false (by omega)) (zz (decide_eq_true ha) (zz (decide_eq_true hb) rfl))
theorem Qyo (y : S131) (hs : y.a23 = 0) (ha : 0 ≤ y.a25) (hb : ¬ y.a25 < (y.a22.length : Int)) : f141 0 y = some { y with a16 := 2 } :=
 yz (decide_eq_false (by omega)) (zz (decide_eq_true ha) (yz (decide_eq_false hb) rfl))
theorem Y2 (h : Turn x) (hp : x.a16 = 8) (ha : 0 ≤ x.a25) (hb : x.a25 < (x.a22.length : Int)) (hc : x.a22.length ≤ 1000) (h1 : 1 ≤ Yn x) (h2 : Yn x < pw x.a3) (hz : wAt x.a14 (Zw (cfg x) x.a17 (Yn x)) = jt x.a12) {y : S131} (hy : f141 0 { x with a14 := wSet x.a14 (Zw (cfg x) x.a17 (Yn x)) 0, a25 := x.a25 + 1 } = some y) : f79 0 x = some y := by
 have hh := ZzZ h ha hb h1 h2
 have hs : f102 0 (memS x) (Zw (cfg x) x.a17 (Yn x)) (jt x.a12) 0 = some ⟨wSet x.a14 (Zw (cfg x) x.a17 (Yn x)) 0, x.a15, true, 0⟩ := QG x.a14 x.a15 (jt x.a12) 0 h.len (h.node h1 h2).1 (h.node h1 h2).2 hz
 have hw : IntKind.i64.wrap (x.a25 + 1) = x.a25 + 1 := w_in (by omega)
 refine Zz4 (by omega) (by omega) h.may.de.1 ?_
 rw [h.fresh]
 refine yz (qw (by omega)) (zz (Qm hp) (zz (by rw [hh]; rfl) ?_))
 rw [hh]
 refine zz (show (f102 0 (memS x) (Zw (cfg x) x.a17 (Yn x)) (jt x.a12) 0).isSome = true by rw [hs]; rfl) (yz (show (!((f102 0 (memS x) (Zw (cfg x) x.a17 (Yn x)) (jt x.a12) 0).getD Yx).y3) = false by rw [hs]; rfl) (yz (show (((f102 0 (memS x) (Zw (cfg x) x.a17 (Yn x)) (jt x.a12) 0).getD Yx).y4 != 0) = false by rw [hs]; rfl) ?_))
 have hq : f141 0 { x with a14 := ((f102 0 (memS x) (Zw (cfg x) x.a17 (Yn x)) (jt x.a12) 0).getD Yx).y1, a15 := ((f102 0 (memS x) (Zw (cfg x) x.a17 (Yn x)) (jt x.a12) 0).getD Yx).y2, a25 := IntKind.i64.wrap (x.a25 + 1) } = some y := by rw [hs, hw]; exact hy
 refine zz (show (f141 0 { x with a14 := ((f102 0 (memS x) (Zw (cfg x) x.a17 (Yn x)) (jt x.a12) 0).getD Yx).y1, a15 := ((f102 0 (memS x) (Zw (cfg x) x.a17 (Yn x)) (jt x.a12) 0).getD Yx).y2, a25 := IntKind.i64.wrap (x.a25 + 1) }).isSome = true by rw [hq]; rfl) ?_
 show some (of85 ((f141 0 { x with a14 := ((f102 0 (memS x) (Zw (cfg x) x.a17 (Yn x)) (jt x.a12) 0).getD Yx).y1, a15 := ((f102 0 (memS x) (Zw (cfg x) x.a17 (Yn x)) (jt x.a12) 0).getD Yx).y2, a25 := IntKind.i64.wrap (x.a25 + 1) }).getD ZzD) true) = _
 rw [hq]
 rfl
end
set_option maxRecDepth 10000
noncomputable def ju (i l : Int) : Int := ((f107 0 i l).getD Zr).y1
theorem Jyo {i l : Int} (h : 0 ≤ i ∧ i ≤ 16) (k : 0 ≤ l ∧ l ≤ 16) : ju i l ≠ 0 := by
 show IntKind.i64.wrap (IntKind.i64.wrap (8 * IntKind.i64.wrap (IntKind.i64.wrap (IntKind.i64.wrap (i * (2 : Int) ^ (4 : Nat)) + l) + 1)) + 4) ≠ 0
 have e : (2 : Int) ^ (4 : Nat) = 16 := rfl
 rw [e, w_in (n := i * 16) (by omega), w_in (n := i * 16 + l) (by omega), w_in (n := i * 16 + l + 1) (by omega), w_in (n := 8 * (i * 16 + l + 1)) (by omega), w_in (by omega)]
 omega
theorem zyn (tp : S35) (h0 : 0 ≤ tp.a1) (h1 : tp.a1 ≤ (tp.a0.length : Int)) (hl : tp.a0.length ≤ 1000) : ∃ v p, f162 0 tp = some ⟨v, tp.a0, p⟩ ∧ 0 ≤ p ∧ p ≤ (tp.a0.length : Int) := by
 have hw : IntKind.i64.wrap ((tp.a0.length : Int) - tp.a1) = (tp.a0.length : Int) - tp.a1 := w_in (by omega)
 by_cases hr : tp.a1 < (tp.a0.length : Int)
 · refine ⟨_, _, yz (decide_eq_false (by omega)) (zz (decide_eq_true ?_) (zz (zZ h0 hr) rfl)), ?_, ?_⟩
   · rw [hw, if_pos (by omega)]; omega
   · rw [w_in (by omega)]; omega
   · rw [w_in (by omega)]; omega
 · refine ⟨_, _, yz (decide_eq_false (by omega)) (yz (decide_eq_false ?_) rfl), h0, h1⟩
   rw [hw, if_neg (by omega)]; omega
theorem Zz5 (tp : S35) (h0 : 0 ≤ tp.a1) (h1 : tp.a1 ≤ (tp.a0.length : Int)) (hl : tp.a0.length ≤ 1000) : ∃ p, f153 0 tp 1 = some ⟨0, tp.a0, p⟩ ∧ 0 ≤ p ∧ p ≤ (tp.a0.length : Int) := by
 obtain ⟨v, p, h, hp⟩ := zyn tp h0 h1 hl
 have ht : v.tmod 1 = 0 := Int.tmod_one v
 refine ⟨p, yz (by decide) (zz (by rw [h]; rfl) (zz (by decide) ?_)), hp⟩
 rw [h]
 refine yz (show decide (v.tmod 1 < 0) = false by rw [ht]; rfl) ?_
 show some (f153o.r0 (v.tmod 1) tp.a0 p) = _
 rw [ht]
section
variable {x : S131}
theorem yyn (h : Turn x) {t : Int} (h0 : 0 ≤ t) (h1 : t < x.a0) : f88 0 (cfg x) t = some ⟨qx (cfg x) t⟩ ∧ 0 ≤ qx (cfg x) t ∧ qx (cfg x) t < (x.a14.length : Int) := by
 refine ⟨Zza h.may h0 h1, ?_⟩
 have := Zg h.may h0 h1; have := h.words; omega
theorem Yz5 (h : Turn x) (hp : x.a16 = 17) (hb : x.a20.length ≤ 1000) : f79 0 x = some { x with a15 := x.a15.set x.a12.toNat [PV.list 147 x.a20], a16 := 18 } := by
 have hbx := h.boxes; have ht := h.may.th; have h1 := h.t1
 have ht2 : x.a0 ≤ 16 := ht.2
 have hs := zyR x.a14 x.a15 (t := x.a12) x.a20 (by omega) hb h.t0 (by omega)
 refine Jd (by omega) (by omega) h.may.de.1 ?_
 rw [h.fresh]
 refine zz (Qm hp) (zz (show (f151 0 (memS x) x.a12 x.a20).isSome = true by rw [hs]; rfl) (zz (show (((f151 0 (memS x) x.a12 x.a20).getD ZI).y3 == 0) = true by rw [hs]; rfl) ?_))
 show some (of86 { x with a14 := ((f151 0 (memS x) x.a12 x.a20).getD ZI).y1, a15 := ((f151 0 (memS x) x.a12 x.a20).getD ZI).y2, a16 := 18 } true) = _
 rw [hs]
 rfl
theorem Q2 (h : Turn x) : f87 0 (memS x) (qx (cfg x) x.a12) (ju x.a17 x.a26) = some ⟨wSet x.a14 (qx (cfg x) x.a12) (ju x.a17 x.a26), x.a15, 0⟩ := jzr x.a14 x.a15 _ h.len h.line.1 h.line.2
theorem Qz5 (h : Turn x) (hp : x.a16 = 18) : f79 0 x = some { x with a14 := wSet x.a14 (qx (cfg x) x.a12) (ju x.a17 x.a26), a16 := 19 } := by
 have hl := qh h
 have hs := Q2 h
 refine Jd (by omega) (by omega) h.may.de.1 ?_
 rw [h.fresh]
 refine yz (qw (by omega)) (zz (Qm hp) (zz (show (f88 0 (cfg x) x.a12).isSome = true by rw [hl]; rfl) ?_))
 rw [hl]
 refine zz (show (f87 0 (memS x) (qx (cfg x) x.a12) (ju x.a17 x.a26)).isSome = true by rw [hs]; rfl) (zz (show (((f87 0 (memS x) (qx (cfg x) x.a12) (ju x.a17 x.a26)).getD f87d).y3 == 0) = true by rw [hs]; rfl) ?_)
 show some (of86 { x with a14 := ((f87 0 (memS x) (qx (cfg x) x.a12) (ju x.a17 x.a26)).getD f87d).y1, a15 := ((f87 0 (memS x) (qx (cfg x) x.a12) (ju x.a17 x.a26)).getD f87d).y2, a16 := 19 } true) = _
 rw [hs]
 rfl
theorem zzi (h : Turn x) (hp : x.a16 = 24) : f79 0 x = some { x with a14 := wSet x.a14 (qx (cfg x) x.a12) (ju x.a17 x.a26), a16 := 23, a27 := x.a6 } := by
 have hl := qh h
 have hs := Q2 h
 refine Jd (by omega) (by omega) h.may.de.1 ?_
 rw [h.fresh]
 refine yz (qw (by omega)) (yz (qw (by omega)) (yz (qw (by omega)) (yz (qw (by omega)) (yz (qw (by omega)) (yz (qw (by omega)) (yz (qw (by omega)) (zz (Qm hp) (zz (show (f88 0 (cfg x) x.a12).isSome = true by rw [hl]; rfl) ?_))))))))
 rw [hl]
 refine zz (show (f87 0 (memS x) (qx (cfg x) x.a12) (ju x.a17 x.a26)).isSome = true by rw [hs]; rfl) (zz (show (((f87 0 (memS x) (qx (cfg x) x.a12) (ju x.a17 x.a26)).getD f87d).y3 == 0) = true by rw [hs]; rfl) ?_)
 show some (of86 { x with a14 := ((f87 0 (memS x) (qx (cfg x) x.a12) (ju x.a17 x.a26)).getD f87d).y1, a15 := ((f87 0 (memS x) (qx (cfg x) x.a12) (ju x.a17 x.a26)).getD f87d).y2, a16 := 23, a27 := x.a6 } true) = _
 rw [hs]
 rfl
def Zp (x : S131) : Int := qm (cfg x) x.a17 x.a26 0
theorem Qzr (h : Turn x) (h1 : 1 ≤ x.a26) (h2 : x.a26 ≤ x.a4) : zi (cfg x) x.a17 x.a26 0 = Zp x ∧ 0 ≤ Zp x ∧ Zp x < (x.a14.length : Int) := by
 have hw := h.may.wi
 have hw1 : 1 ≤ x.a5 := hw.1
 refine ⟨qyo h.may h.i0 h.i1 h1 h2 (Int.le_refl _) (by omega), ?_⟩
 have := QyS h.may h.i0 h.i1 h1 h2 (Int.le_refl 0) (show (0 : Int) < (cfg x).a5 by omega); have := h.words
 unfold Zp; omega
theorem Jz5 (h : Turn x) (hp : x.a16 = 19) (h1 : 1 ≤ x.a26) (h2 : x.a26 ≤ x.a4) (hw : x.a28 = 1) (g0 : 0 ≤ x.a34) (g1 : x.a34 ≤ (x.a33.length : Int)) (gl : x.a33.length ≤ 1000) :
 ∃ p, 0 ≤ p ∧ p ≤ (x.a33.length : Int) ∧ (f79 0 x = some { x with a14 := wSet x.a14 (Zp x) (x.a12 + 1), a16 := 23, a27 := x.a6, a34 := p } ∨
  (1 ≤ wAt x.a14 (Zp x) ∧ wAt x.a14 (Zp x) ≤ x.a0 ∧ wAt x.a14 (Zp x) ≠ x.a12 + 1 ∧ f79 0 x = some { x with a14 := wSet x.a14 (Zp x) (x.a12 + 1), a16 := 20, a29 := wAt x.a14 (Zp x) - 1, a34 := p })) := by
 obtain ⟨p, hb, hp0, hp1⟩ := Zz5 ⟨x.a33, x.a34⟩ g0 g1 gl
 obtain ⟨hv, hv0, hv1⟩ := Qzr h h1 h2
 have ht1 : IntKind.i64.wrap (x.a12 + 1) = x.a12 + 1 := w_in (by have := h.t0; have := h.t1; have := h.may.th.2; have : x.a0 ≤ 16 := this; omega)
 have hs := jyo x.a14 x.a15 (p := Zp x) (x.a12 + 1) h.len hv0 hv1
 refine ⟨p, hp0, hp1, ?_⟩
 have base : ∀ y, (Tr.run (.test (decide (wAt x.a14 (Zp x) < 1)) (.ret (of86 { x with a14 := wSet x.a14 (Zp x) (x.a12 + 1), a16 := 23, a27 := x.a6, a34 := p } true)) (.test (decide (wAt x.a14 (Zp x) > x.a0)) (.ret (of86 { x with a14 := wSet x.a14 (Zp x) (x.a12 + 1), a16 := 23, a27 := x.a6, a34 := p } true)) (.test (wAt x.a14 (Zp x) == x.a12 + 1) (.ret (of86 { x with a14 := wSet x.a14 (Zp x) (x.a12 + 1), a16 := 23, a27 := x.a6, a34 := p } true)) (.ret (of86 { x with a14 := wSet x.a14 (Zp x) (x.a12 + 1), a16 := 20, a29 := IntKind.i64.wrap (wAt x.a14 (Zp x) - 1), a34 := p } true)))))) = some (of86 y true) → f79 0 x = some y := by
  intro y hy
  refine Jd (by omega) (by omega) h.may.de.1 ?_
  rw [h.fresh]
  refine yz (qw (by omega)) (yz (qw (by omega)) (zz (Qm hp) ?_))
  have hb' : f153 0 ⟨x.a33, x.a34⟩ x.a28 = some ⟨0, x.a33, p⟩ := by rw [hw]; exact hb
  refine zz (by rw [hb']; rfl) (zz (decide_eq_true h.may.de.1) ?_)
  rw [hb']
  have hs' : f154 0 (memS x) (zi (cfg x) x.a17 x.a26 ((some (f153o.r0 0 x.a33 p)).getD Qk).y1) (x.a12 + 1) = some ⟨wSet x.a14 (Zp x) (x.a12 + 1), x.a15, wAt x.a14 (Zp x), 0⟩ := by
   show f154 0 (memS x) (zi (cfg x) x.a17 x.a26 0) (x.a12 + 1) = _
   rw [hv]
   exact hs
  rw [ht1, hs']
  exact zz rfl (yz rfl hy)
 by_cases q1 : wAt x.a14 (Zp x) < 1
 · exact .inl (base _ (zz (decide_eq_true q1) rfl))
 by_cases q2 : wAt x.a14 (Zp x) > x.a0
 · exact .inl (base _ (yz (decide_eq_false q1) (zz (decide_eq_true q2) rfl)))
 by_cases q3 : wAt x.a14 (Zp x) = x.a12 + 1
 · exact .inl (base _ (yz (decide_eq_false q1) (yz (decide_eq_false q2) (zz (Qm q3) rfl))))
 refine .inr ⟨by omega, by omega, q3, base _ (yz (decide_eq_false q1) (yz (decide_eq_false q2) (yz (qw q3) ?_)))⟩
 have : IntKind.i64.wrap (wAt x.a14 (Zp x) - 1) = wAt x.a14 (Zp x) - 1 := w_in (by have : x.a0 ≤ 16 := h.may.th.2; omega)
 rw [this]
 rfl
theorem zz6 (h : Turn x) (hp : x.a16 = 20) (hz : wAt x.a14 (qx (cfg x) x.a12) = ju x.a17 x.a26) : f79 0 x = some { x with a14 := wSet x.a14 (qx (cfg x) x.a12) 0, a16 := 21 } := by
 have hl := qh h
 have hs := QG x.a14 x.a15 (ju x.a17 x.a26) 0 h.len h.line.1 h.line.2 hz
 refine Jd (by omega) (by omega) h.may.de.1 ?_
 rw [h.fresh]
 refine yz (qw (by omega)) (yz (qw (by omega)) (yz (qw (by omega)) (zz (Qm hp) (zz (show (f88 0 (cfg x) x.a12).isSome = true by rw [hl]; rfl) ?_))))
 rw [hl]
 refine zz (show (f102 0 (memS x) (qx (cfg x) x.a12) (ju x.a17 x.a26) 0).isSome = true by rw [hs]; rfl) (yz (show (((f102 0 (memS x) (qx (cfg x) x.a12) (ju x.a17 x.a26) 0).getD Yx).y4 != 0) = false by rw [hs]; rfl) (zz (show ((f102 0 (memS x) (qx (cfg x) x.a12) (ju x.a17 x.a26) 0).getD Yx).y3 = true by rw [hs]; rfl) (yz (qw (by omega)) ?_)))
 show some (of86 { x with a14 := ((f102 0 (memS x) (qx (cfg x) x.a12) (ju x.a17 x.a26) 0).getD Yx).y1, a15 := ((f102 0 (memS x) (qx (cfg x) x.a12) (ju x.a17 x.a26) 0).getD Yx).y2, a16 := 21 } true) = _
 rw [hs]
 rfl
theorem Jzr (h : Turn x) (hp : x.a16 = 21) (h0 : 0 ≤ x.a29) (h1 : x.a29 < x.a0) (hz : wAt x.a14 (qx (cfg x) x.a29) ≠ ju x.a17 x.a26) : f79 0 x = some { x with a16 := 24 } := by
 obtain ⟨hl, g0, g1⟩ := yyn h h0 h1
 have hs := JyS x.a14 x.a15 (ju x.a17 x.a26) 0 g0 g1 hz
 refine Jd (by omega) (by omega) h.may.de.1 ?_
 rw [h.fresh]
 refine yz (qw (by omega)) (yz (qw (by omega)) (yz (qw (by omega)) (yz (qw (by omega)) (zz (Qm hp) (zz (show (f88 0 (cfg x) x.a29).isSome = true by rw [hl]; rfl) ?_)))))
 rw [hl]
 refine zz (show (f102 0 (memS x) (qx (cfg x) x.a29) (ju x.a17 x.a26) 0).isSome = true by rw [hs]; rfl) (yz (show (((f102 0 (memS x) (qx (cfg x) x.a29) (ju x.a17 x.a26) 0).getD Yx).y4 != 0) = false by rw [hs]; rfl) (yz (show ((f102 0 (memS x) (qx (cfg x) x.a29) (ju x.a17 x.a26) 0).getD Yx).y3 = false by rw [hs]; rfl) ?_))
 show some (of86 { x with a14 := ((f102 0 (memS x) (qx (cfg x) x.a29) (ju x.a17 x.a26) 0).getD Yx).y1, a15 := ((f102 0 (memS x) (qx (cfg x) x.a29) (ju x.a17 x.a26) 0).getD Yx).y2, a16 := 24 } true) = _
 rw [hs]
 rfl
theorem yzz (y : S131) (h0 : y.a13 = 0) : f120 0 y = some ⟨false⟩ := by
 by_cases hu : 0 < y.a32
 · refine zz (decide_eq_true hu) ?_
   show some (f120o.r0 (decide (y.a32 ≤ y.a13))) = _
   rw [decide_eq_false (by omega)]
 · exact yz (decide_eq_false hu) rfl
theorem yz6 (h : Turn x) (hp : x.a16 = 23) (h0 : x.a13 = 0) (hz : wAt x.a14 (qx (cfg x) x.a12) = ju x.a17 x.a26) (hl0 : 0 < x.a27) (hl1 : x.a27 ≤ 1000) : f79 0 x = some { x with a27 := x.a27 - 1 } := by
 have hl := qh h
 have hs : f33 0 (memS x) (qx (cfg x) x.a12) = some ⟨ju x.a17 x.a26, 0⟩ := by rw [JU x.a14 x.a15 h.line.1 h.line.2, hz]
 refine Jd (by omega) (by omega) h.may.de.1 ?_
 rw [h.fresh]
 refine yz (qw (by omega)) (yz (qw (by omega)) (yz (qw (by omega)) (yz (qw (by omega)) (yz (qw (by omega)) (yz (qw (by omega)) (zz (Qm hp) (zz (show (f88 0 (cfg x) x.a12).isSome = true by rw [hl]; rfl) ?_)))))))
 rw [hl]
 refine zz (show (f33 0 (memS x) (qx (cfg x) x.a12)).isSome = true by rw [hs]; rfl) (yz (show (((f33 0 (memS x) (qx (cfg x) x.a12)).getD f33d).y2 != 0) = false by rw [hs]; rfl) (yz (show (((f33 0 (memS x) (qx (cfg x) x.a12)).getD f33d).y1 != ju x.a17 x.a26) = false by rw [hs]; simp) (zz (decide_eq_true hl0) (zz (by rw [yzz x h0]; rfl) (zz (by rw [yzz x h0]; rfl) ?_)))))
 show some (of86 { x with a27 := IntKind.i64.wrap (x.a27 - 1) } true) = _
 rw [w_in (by omega)]
theorem qyn (h : Turn x) (hp : x.a16 = 23) (hz : wAt x.a14 (qx (cfg x) x.a12) = ju x.a17 x.a26) (hl0 : x.a27 = 0) : f79 0 x = some { x with a16 := 26 } := by
 have hl := qh h
 have hs : f33 0 (memS x) (qx (cfg x) x.a12) = some ⟨ju x.a17 x.a26, 0⟩ := by rw [JU x.a14 x.a15 h.line.1 h.line.2, hz]
 refine Jd (by omega) (by omega) h.may.de.1 ?_
 rw [h.fresh]
 refine yz (qw (by omega)) (yz (qw (by omega)) (yz (qw (by omega)) (yz (qw (by omega)) (yz (qw (by omega)) (yz (qw (by omega)) (zz (Qm hp) (zz (show (f88 0 (cfg x) x.a12).isSome = true by rw [hl]; rfl) ?_)))))))
 rw [hl]
 exact zz (show (f33 0 (memS x) (qx (cfg x) x.a12)).isSome = true by rw [hs]; rfl) (yz (show (((f33 0 (memS x) (qx (cfg x) x.a12)).getD f33d).y2 != 0) = false by rw [hs]; rfl) (yz (show (((f33 0 (memS x) (qx (cfg x) x.a12)).getD f33d).y1 != ju x.a17 x.a26) = false by rw [hs]; simp) (yz (decide_eq_false (by omega)) rfl)))
theorem yzi (y : S131) (h0 : y.a13 = 0) (hl : y.a26 < y.a4) (hb : y.a26 ≤ 16) (hc : 0 ≤ y.a26) : f96 0 y = some { y with a16 := 17, a26 := y.a26 + 1 } := by
 have hn := yzz { y with a16 := 2 } h0
 refine zz (decide_eq_true hl) (zz (show (f120 0 { y with a16 := 2 }).isSome = true by rw [hn]; rfl) (zz (show (!((f120 0 { y with a16 := 2 }).getD yzU).y0) = true by rw [hn]; rfl) ?_))
 show some { y with a16 := 17, a26 := IntKind.i64.wrap (y.a26 + 1) } = _
 rw [w_in (by omega)]
theorem ZzQ (y : S131) (hl : ¬ y.a26 < y.a4) : f96 0 y = some { y with a16 := 2 } := yz (decide_eq_false hl) rfl
theorem YzQ (h : Turn x) (hp : x.a16 = 26) (hw : x.a28 = 1) (hz : wAt x.a14 (qx (cfg x) x.a12) = ju x.a17 x.a26) {y : S131} (hy : f96 0 { x with a14 := wSet x.a14 (qx (cfg x) x.a12) 0 } = some y) : f79 0 x = some y := by
 have hl := qh h
 have hs := QG x.a14 x.a15 (ju x.a17 x.a26) 0 h.len h.line.1 h.line.2 hz
 have hwv : (if (1 : Int) < x.a28.fdiv ((2 : Int) ^ (1 : Nat)) then x.a28.fdiv ((2 : Int) ^ (1 : Nat)) else (1 : Int)) = x.a28 := by rw [hw]; rfl
 refine Jd (by omega) (by omega) h.may.de.1 ?_
 rw [h.fresh]
 refine yz (qw (by omega)) (yz (qw (by omega)) (yz (qw (by omega)) (yz (qw (by omega)) (yz (qw (by omega)) (yz (qw (by omega)) (yz (qw (by omega)) (yz (qw (by omega)) (zz (Qm hp) (zz (show (f88 0 (cfg x) x.a12).isSome = true by rw [hl]; rfl) ?_)))))))))
 rw [hl, hwv]
 have hq : f96 0 { x with a14 := ((f102 0 (memS x) (qx (cfg x) x.a12) (ju x.a17 x.a26) 0).getD Yx).y1, a15 := ((f102 0 (memS x) (qx (cfg x) x.a12) (ju x.a17 x.a26) 0).getD Yx).y2, a16 := 26 } = some y := by
  rw [hs, ← hp]
  exact hy
 refine zz (show (f102 0 (memS x) (qx (cfg x) x.a12) (ju x.a17 x.a26) 0).isSome = true by rw [hs]; rfl) (yz (show (((f102 0 (memS x) (qx (cfg x) x.a12) (ju x.a17 x.a26) 0).getD Yx).y4 != 0) = false by rw [hs]; rfl) (zz (show ((f102 0 (memS x) (qx (cfg x) x.a12) (ju x.a17 x.a26) 0).getD Yx).y3 = true by rw [hs]; rfl) (zz (Qm hp) ?_)))
 refine zz (show (f96 0 { x with a14 := ((f102 0 (memS x) (qx (cfg x) x.a12) (ju x.a17 x.a26) 0).getD Yx).y1, a15 := ((f102 0 (memS x) (qx (cfg x) x.a12) (ju x.a17 x.a26) 0).getD Yx).y2, a16 := 26 }).isSome = true by rw [hq]; rfl) ?_
 show some (of86 ((f96 0 { x with a14 := ((f102 0 (memS x) (qx (cfg x) x.a12) (ju x.a17 x.a26) 0).getD Yx).y1, a15 := ((f102 0 (memS x) (qx (cfg x) x.a12) (ju x.a17 x.a26) 0).getD Yx).y2, a16 := 26 }).getD f96d) true) = _
 rw [hq]
 rfl
end
set_option maxRecDepth 10000
def qyR (x y : S131) : Prop := cfg y = cfg x ∧ y.a12 = x.a12 ∧ y.a13 = x.a13
def Goes : Nat → S131 → S131 → Prop
 | 0, x, z => x = z
 | n + 1, x, z => ∃ y, x.a16 ≠ 0 ∧ f79 0 x = some y ∧ y.a36 = false ∧ y.a35 = [] ∧ qyR x y ∧ Goes n y z
theorem Goes.trans : ∀ {n m : Nat} {x y z : S131}, Goes n x y → Goes m y z → Goes (n + m) x z
 | 0, m, x, y, z, h, k => by rw [Nat.zero_add]; cases h; exact k
 | n + 1, m, x, y, z, h, k => by
   obtain ⟨u, h1, h2, h3, h4, h5, h6⟩ := h
   rw [Nat.succ_add]
   exact ⟨u, h1, h2, h3, h4, h5, h6.trans k⟩
theorem Goes.one {x y : S131} (h : Turn x) (hp : x.a16 ≠ 0) (hs : f79 0 x = some y) (h1 : y.a35 = x.a35) (h2 : y.a36 = x.a36) (h3 : qyR x y := by exact ⟨rfl, rfl, rfl⟩) : Goes 1 x y :=
 ⟨y, hp, hs, h2.trans h.done, h1.trans h.log, h3, rfl⟩
structure Ends (x z : S131) : Prop where
 cfg : cfg z = cfg x
 th : z.a12 = x.a12
 now : z.a13 = x.a13
 idle : z.a16 = 0
 item : z.a17 = x.a17
 tag : z.a18 = x.a18
 v : z.a19 = x.a19
 wid : z.a28 = x.a28
 prior : z.a30 = qj x
 done : z.a36 = true
 log : z.a35.length = x.a20.length
 boxes : z.a15 = x.a15
 tape : z.a33 = x.a33
 at_ : z.a34 = x.a34
 len : z.a14.length = x.a14.length
 cell : wAt z.a14 (Zv (Go.Proofs.YtgfnpgnfklcicaaGreatS.cfg x) x.a17) = zT x
 other : ∀ q, 0 ≤ q → q ≠ Zv (Go.Proofs.YtgfnpgnfklcicaaGreatS.cfg x) x.a17 → wAt z.a14 q = wAt x.a14 q
theorem qz6 (x : S131) (h : x.a35 = []) (v : Int) : (qzs x v).length = x.a20.length := by
 unfold qzs
 rw [h]
 simp
theorem zF {x : S131} (h : Turn x) (hp : x.a16 = 2) (hb : x.a20.length ≤ 1000) (hk : x.a21 = []) : ∃ k y z, k ≤ 1 ∧ Goes k x y ∧ y.a16 ≠ 0 ∧ f79 0 y = some z ∧ Ends x z := by
 by_cases hy : zT x = qj x
 · refine ⟨0, x, _, by omega, rfl, by omega, Jz4 h hp hb hk hy, ?_⟩
   exact ⟨rfl, rfl, rfl, rfl, rfl, rfl, rfl, rfl, rfl, rfl, qz6 x h.log _, rfl, rfl, rfl, rfl, hy.symm, fun _ _ _ => rfl⟩
 · have h1 := zz5 h hp hb hy
   have hT : Turn { x with a16 := 3, a30 := qj x, a31 := zT x } := ⟨h.may, h.t0, h.t1, h.i0, h.i1, h.words, h.boxes, h.log, h.done⟩
   refine ⟨1, _, _, by omega, Goes.one h (by omega) h1 rfl rfl, by show (3 : Int) ≠ 0; omega, Zyo hT rfl hb hk rfl, ?_⟩
   exact ⟨rfl, rfl, rfl, rfl, rfl, rfl, rfl, rfl, rfl, rfl, qz6 x h.log _, rfl, rfl, rfl, yi _ _ _, Qd _ h.cell.1 h.cell.2, fun q hq hne => yp _ h.cell.1 hq (Ne.symm hne)⟩
def zb (H : List Int) : List (List PV) := H.map fun n => [PV.int .i64 n]
theorem Zh (H : List Int) : (zb H).length = H.length := by simp [zb]
def T (x : S131) (w : List (List PV)) (p : Int) (H : List Int) (n a : Int) : S131 := { x with a14 := w, a16 := p, a22 := zb H, a24 := n, a25 := a }
theorem zzq {x : S131} (h : Turn x) {w : List (List PV)} (hw : w.length = x.a14.length) (p : Int) (H : List Int) (n a : Int) : Turn (T x w p H n a) :=
 ⟨h.may, h.t0, h.t1, h.i0, h.i1, by show (w.length : Int) = _; rw [hw]; exact h.words, h.boxes, h.log, h.done⟩
structure Inv (x : S131) (w : List (List PV)) (H : List Int) : Prop where
 len : w.length = x.a14.length
 nodes : ∀ m, 1 ≤ m → m < pw x.a3 → wAt w (Zw (cfg x) x.a17 m) = if m ∈ H then jt x.a12 else 0
 other : ∀ q, 0 ≤ q → (∀ m, 1 ≤ m → m < pw x.a3 → q ≠ Zw (cfg x) x.a17 m) → wAt w q = wAt x.a14 q
theorem Inv.set {x : S131} (h : Turn x) {w : List (List PV)} {H H' : List Int} (k : Inv x w H) {n v : Int} (h1 : 1 ≤ n) (h2 : n < pw x.a3) (hv : v = if n ∈ H' then jt x.a12 else 0) (hH : ∀ m, m ≠ n → (m ∈ H' ↔ m ∈ H)) : Inv x (wSet w (Zw (cfg x) x.a17 n) v) H' := by
 have hn := h.node h1 h2
 refine ⟨by rw [yi, k.len], fun m m1 m2 => ?_, fun q hq hall => ?_⟩
 · by_cases e : m = n
   · subst e
     rw [Qd _ hn.1 (by rw [k.len]; exact hn.2), hv]
   · have hm := h.node m1 m2
     rw [yp _ hn.1 hm.1 (fun q => e (Qza h.may h.i0 h.i1 h.i0 h.i1 h1 h2 m1 m2 q).2.symm), k.nodes m m1 m2]
     by_cases q : m ∈ H
     · rw [if_pos q, if_pos ((hH m e).2 q)]
     · rw [if_neg q, if_neg (fun q' => q ((hH m e).1 q'))]
 · rw [yp _ hn.1 hq (Ne.symm (hall n h1 h2))]
   exact k.other q hq hall
theorem yzq {x : S131} (h : Turn x) (hs : x.a23 = 0) : ∀ (j : Nat) (n : Int) (H : List Int) (w : List (List PV)), 1 ≤ n → n < 2 ^ j → n < pw x.a3 → (∀ m ∈ H, n < m) → (∀ m ∈ H, 1 ≤ m ∧ m < pw x.a3) → H.Nodup → Inv x w H → H.length + j ≤ 900 →
 ∃ k w' H', k ≤ 2 * j ∧ Goes k (T x w 4 H n 0) (T x w' 7 H' 0 0) ∧ Inv x w' H' ∧ H' ≠ [] ∧ (∀ m ∈ H', 1 ≤ m ∧ m < pw x.a3) ∧ H'.Nodup ∧ H'.length ≤ H.length + j
 | 0, n, H, w, h1, h2, _, _, _, _, _, _ => by simp at h2; omega
 | j + 1, n, H, w, h1, h2, h3, h4, h5, h6, h7, h8 => by
   have hnot : n ∉ H := fun q => by have := h4 n q; omega
   have hT := zzq h h7.len 4 H n 0
   have hz : wAt w (Zw (cfg x) x.a17 n) = 0 := by rw [h7.nodes n h1 h3, if_neg hnot]
   have s1 : f79 0 (T x w 4 H n 0) = some (T x w 5 H n 0) := jzQ hT rfl h1 h3 hz
   have c1 : Goes 1 (T x w 4 H n 0) (T x w 5 H n 0) := Goes.one hT (by show (4 : Int) ≠ 0; omega) s1 rfl rfl
   have hT2 := zzq h h7.len 5 H n 0
   have hI : Inv x (wSet w (Zw (cfg x) x.a17 n) (jt x.a12)) (H ++ [n]) := h7.set h h1 h3 (by simp) (fun m hm => by simp [hm])
   have hN : (H ++ [n]).Nodup := by
    rw [List.nodup_append]
    refine ⟨h6, by simp, ?_⟩
    intro a ha b hb
    simp at hb
    subst hb
    intro e
    exact hnot (e ▸ ha)
   have hA : ∀ m ∈ H ++ [n], 1 ≤ m ∧ m < pw x.a3 := by
    intro m hm
    simp at hm
    rcases hm with hm | rfl
    · exact h5 m hm
    · exact ⟨h1, h3⟩
   have hL : zb H ++ [[PV.int .i64 n]] = zb (H ++ [n]) := by simp [zb]
   have hup : upN n = n / 2 := yyR (by omega)
   by_cases hu : 0 < n / 2
   · have s2 : f79 0 (T x w 5 H n 0) = some (T x (wSet w (Zw (cfg x) x.a17 n) (jt x.a12)) 4 (H ++ [n]) (n / 2) 0) := by
      refine Yzr hT2 rfl h1 h3 hz ?_
      show f100 0 (T x (wSet w (Zw (cfg x) x.a17 n) (jt x.a12)) 4 H n 0) = _
      rw [Yyo (T x (wSet w (Zw (cfg x) x.a17 n) (jt x.a12)) 4 H n 0) (by show (zb H).length ≤ 1000; rw [Zh]; omega) (by show 0 < upN n; rw [hup]; exact hu)]
      show some { x with a14 := _, a16 := 4, a22 := zb H ++ [[PV.int .i64 n]], a24 := upN n, a25 := 0 } = _
      rw [hL, hup]
      rfl
     have c2 : Goes 1 (T x w 5 H n 0) (T x (wSet w (Zw (cfg x) x.a17 n) (jt x.a12)) 4 (H ++ [n]) (n / 2) 0) := Goes.one hT2 (by show (5 : Int) ≠ 0; omega) s2 rfl rfl
     have h2' : n < 2 * 2 ^ j := by rw [Int.pow_succ] at h2; omega
     obtain ⟨k, w', H', k1, k2, k3, k4, k5, k6, k7⟩ := yzq h hs j (n / 2) (H ++ [n]) _ (by omega) (by omega) (by omega) (by
      intro m hm
      simp at hm
      rcases hm with hm | rfl
      · have := h4 m hm; omega
      · omega) hA hN hI (by simp; omega)
     refine ⟨1 + 1 + k, w', H', by omega, (c1.trans c2).trans k2, k3, k4, k5, k6, by simp at k7; omega⟩
   · have s2 : f79 0 (T x w 5 H n 0) = some (T x (wSet w (Zw (cfg x) x.a17 n) (jt x.a12)) 7 (H ++ [n]) 0 0) := by
      refine Yzr hT2 rfl h1 h3 hz ?_
      show f100 0 (T x (wSet w (Zw (cfg x) x.a17 n) (jt x.a12)) 4 H n 0) = _
      rw [qz5 (T x (wSet w (Zw (cfg x) x.a17 n) (jt x.a12)) 4 H n 0) (by show (zb H).length ≤ 1000; rw [Zh]; omega) (by show upN n = 0; rw [hup]; omega) hs]
      show some { x with a14 := _, a16 := 7, a22 := zb H ++ [[PV.int .i64 n]], a24 := 0, a25 := 0 } = _
      rw [hL]
      rfl
     have c2 : Goes 1 (T x w 5 H n 0) (T x (wSet w (Zw (cfg x) x.a17 n) (jt x.a12)) 7 (H ++ [n]) 0 0) := Goes.one hT2 (by show (5 : Int) ≠ 0; omega) s2 rfl rfl
     exact ⟨1 + 1, _, _, by omega, c1.trans c2, hI, by simp, hA, hN, by rw [List.length_append, List.length_singleton]; omega⟩
theorem jz6 {x : S131} {w : List (List PV)} {p n : Int} {H : List Int} {a : Nat} (ha : a < H.length) : Yn (T x w p H n a) = H[a] := by
 unfold Yn
 show pInt (((zb H).getD (a : Int).toNat []).headD PV.undef) = _
 rw [List.getD_eq_getElem?_getD]
 simp [zb, ha]
 rfl
theorem J2 {x : S131} (h : Turn x) (hs : x.a23 = 0) {H : List Int} (hA : ∀ m ∈ H, 1 ≤ m ∧ m < pw x.a3) (hN : H.Nodup) (hl : H.length ≤ 900) : ∀ (r a : Nat) (w : List (List PV)), a + (r + 1) = H.length → Inv x w (H.drop a) →
 ∃ w', Goes (2 * (r + 1)) (T x w 7 H 0 a) (T x w' 2 H 0 H.length) ∧ Inv x w' []
 | r, a, w, hr, hI => by
   have ha : a < H.length := by omega
   have hm := hA H[a] (List.getElem_mem ha)
   have hd : H.drop a = H[a] :: H.drop (a + 1) := List.drop_eq_getElem_cons ha
   have hNd : (H.drop a).Nodup := hN.sublist (List.drop_sublist a H)
   rw [hd] at hNd
   have hnot : H[a] ∉ H.drop (a + 1) := (List.nodup_cons.1 hNd).1
   have hT := zzq h hI.len 7 H 0 a
   have hT2 := zzq h hI.len 8 H 0 a
   have hh : Yn (T x w 7 H 0 a) = H[a] := jz6 ha
   have hh2 : Yn (T x w 8 H 0 a) = H[a] := jz6 ha
   have hz : wAt w (Zw (cfg x) x.a17 H[a]) = jt x.a12 := by rw [hI.nodes _ hm.1 hm.2, if_pos (by rw [hd]; exact List.mem_cons_self)]
   have hb : (a : Int) < ((zb H).length : Int) := by rw [Zh]; omega
   have s1 : f79 0 (T x w 7 H 0 a) = some (T x w 8 H 0 a) := Jzj hT rfl (by show (0 : Int) ≤ a; omega) hb (by rw [hh]; exact hm.1) (by rw [hh]; exact hm.2) (by rw [hh]; exact hz)
   have c1 : Goes 1 (T x w 7 H 0 a) (T x w 8 H 0 a) := Goes.one hT (by show (7 : Int) ≠ 0; omega) s1 rfl rfl
   have hI2 : Inv x (wSet w (Zw (cfg x) x.a17 H[a]) 0) (H.drop (a + 1)) := hI.set h hm.1 hm.2 (by rw [if_neg hnot]) (fun m hme => by rw [hd, List.mem_cons]; exact ⟨Or.inr, fun q => q.resolve_left hme⟩)
   match r, hr with
   | 0, hr =>
     have he : H.drop (a + 1) = [] := List.drop_eq_nil_of_le (by omega)
     have s2 : f79 0 (T x w 8 H 0 a) = some (T x (wSet w (Zw (cfg x) x.a17 H[a]) 0) 2 H 0 H.length) := by
      refine Y2 hT2 rfl (by show (0 : Int) ≤ a; omega) hb (by show (zb H).length ≤ 1000; rw [Zh]; omega) (by rw [hh2]; exact hm.1) (by rw [hh2]; exact hm.2) (by rw [hh2]; exact hz) ?_
      rw [hh2]
      show f141 0 (T x (wSet w (Zw (cfg x) x.a17 H[a]) 0) 8 H 0 ((a : Int) + 1)) = _
      rw [Qyo (y := T x (wSet w (Zw (cfg x) x.a17 H[a]) 0) 8 H 0 ((a : Int) + 1)) hs (by show (0 : Int) ≤ (a : Int) + 1; omega) (by show ¬ (a : Int) + 1 < ((zb H).length : Int); rw [Zh]; omega)]
      show some { x with a14 := _, a16 := 2, a22 := zb H, a24 := 0, a25 := (a : Int) + 1 } = _
      rw [show (a : Int) + 1 = (H.length : Int) from by omega]
      rfl
     have c2 : Goes 1 (T x w 8 H 0 a) (T x (wSet w (Zw (cfg x) x.a17 H[a]) 0) 2 H 0 H.length) := Goes.one hT2 (by show (8 : Int) ≠ 0; omega) s2 rfl rfl
     rw [he] at hI2
     exact ⟨_, c1.trans c2, hI2⟩
   | r + 1, hr =>
     have s2 : f79 0 (T x w 8 H 0 a) = some (T x (wSet w (Zw (cfg x) x.a17 H[a]) 0) 7 H 0 ((a + 1 : Nat) : Int)) := by
      refine Y2 hT2 rfl (by show (0 : Int) ≤ a; omega) hb (by show (zb H).length ≤ 1000; rw [Zh]; omega) (by rw [hh2]; exact hm.1) (by rw [hh2]; exact hm.2) (by rw [hh2]; exact hz) ?_
      rw [hh2]
      show f141 0 (T x (wSet w (Zw (cfg x) x.a17 H[a]) 0) 8 H 0 ((a : Int) + 1)) = _
      rw [jz5 (y := T x (wSet w (Zw (cfg x) x.a17 H[a]) 0) 8 H 0 ((a : Int) + 1)) hs (by show (0 : Int) ≤ (a : Int) + 1; omega) (by show (a : Int) + 1 < ((zb H).length : Int); rw [Zh]; omega)]
      rfl
     have c2 : Goes 1 (T x w 8 H 0 a) (T x (wSet w (Zw (cfg x) x.a17 H[a]) 0) 7 H 0 ((a + 1 : Nat) : Int)) := Goes.one hT2 (by show (8 : Int) ≠ 0; omega) s2 rfl rfl
     obtain ⟨w', k1, k2⟩ := J2 h hs hA hN hl r (a + 1) _ (by omega) hI2
     refine ⟨w', ?_, k2⟩
     have := (c1.trans c2).trans k1
     rw [show 1 + 1 + 2 * (r + 1) = 2 * (r + 1 + 1) from by omega] at this
     exact this
set_option maxRecDepth 10000
def G (x : S131) (w b : List (List PV)) (p l left who pos : Int) : S131 := { x with a14 := w, a15 := b, a16 := p, a26 := l, a27 := left, a29 := who, a34 := pos }
theorem Yc {x : S131} (h : Turn x) {w b : List (List PV)} (hw : w.length = x.a14.length) (hb : b.length = x.a15.length) (p l left who pos : Int) : Turn (G x w b p l left who pos) :=
 ⟨h.may, h.t0, h.t1, h.i0, h.i1, by show (w.length : Int) = _; rw [hw]; exact h.words, by show (b.length : Int) = _; rw [hb]; exact h.boxes, h.log, h.done⟩
theorem qzz {c : S23} {t u : Int} (h : t ≠ u) : qx c t ≠ qx c u := by unfold qx; omega
structure Lay (x : S131) (w b : List (List PV)) (pos : Int) : Prop where
 len : w.length = x.a14.length
 boxes : b.length = x.a15.length
 lines : ∀ t, 0 ≤ t → t < x.a0 → wAt w (qx (cfg x) t) = 0
 pos0 : 0 ≤ pos
 pos1 : pos ≤ (x.a33.length : Int)
 other : ∀ q, 0 ≤ q → (∀ t, 0 ≤ t → t < x.a0 → q ≠ qx (cfg x) t) → (∀ l, 1 ≤ l → l ≤ x.a4 → q ≠ qm (cfg x) x.a17 l 0) → wAt w q = wAt x.a14 q
section
variable {x : S131}
theorem YzZ (h : Turn x) (h0 : x.a13 = 0) {w b : List (List PV)} (hw : w.length = x.a14.length) (hb : b.length = x.a15.length) {l who pos : Int} (hz : wAt w (qx (cfg x) x.a12) = ju x.a17 l) : ∀ s : Nat, (s : Int) ≤ 1000 → Goes (s + 1) (G x w b 23 l s who pos) (G x w b 26 l 0 who pos)
 | 0, _ => Goes.one (Yc h hw hb _ _ _ _ _) (by show (23 : Int) ≠ 0; omega) (qyn (Yc h hw hb 23 l 0 who pos) rfl hz rfl) rfl rfl
 | s + 1, hs => by
   have s1 : f79 0 (G x w b 23 l ((s + 1 : Nat) : Int) who pos) = some (G x w b 23 l (s : Int) who pos) := by
    rw [yz6 (Yc h hw hb 23 l ((s + 1 : Nat) : Int) who pos) rfl h0 hz (by show (0 : Int) < ((s + 1 : Nat) : Int); omega) hs]
    show some { x with a14 := w, a15 := b, a16 := 23, a26 := l, a27 := ((s + 1 : Nat) : Int) - 1, a29 := who, a34 := pos } = _
    rw [show ((s + 1 : Nat) : Int) - 1 = (s : Int) from by omega]
    rfl
   have c1 := Goes.one (Yc h hw hb 23 l ((s + 1 : Nat) : Int) who pos) (by show (23 : Int) ≠ 0; omega) s1 rfl rfl
   have := c1.trans (YzZ h h0 hw hb hz s (by omega))
   rw [show 1 + (s + 1) = s + 1 + 1 from by omega] at this
   exact this
theorem Zz6 (h : Turn x) (h0 : x.a13 = 0) (hwd : x.a28 = 1) {w b : List (List PV)} (hw : w.length = x.a14.length) (hb : b.length = x.a15.length) {l who pos : Int} (hl1 : 1 ≤ l) (hl2 : l ≤ x.a4) (hz : wAt w (qx (cfg x) x.a12) = ju x.a17 l) :
 ∃ k : Nat, (k : Int) = x.a6 + 2 ∧ Goes k (G x w b 23 l x.a6 who pos) (G x (wSet w (qx (cfg x) x.a12) 0) b (if l < x.a4 then 17 else 2) (if l < x.a4 then l + 1 else l) 0 who pos) := by
 have hsp := h.may.sp
 have hsp1 : 0 ≤ x.a6 := hsp.1
 have hsp2 : x.a6 ≤ 20 := hsp.2
 have hla : x.a4 ≤ 3 := h.may.la.2
 obtain ⟨s, hs⟩ : ∃ s : Nat, x.a6 = (s : Int) := ⟨x.a6.toNat, by omega⟩
 have hT := Yc h hw hb 26 l 0 who pos
 have c1 := YzZ h h0 hw hb (who := who) (pos := pos) hz s (by omega)
 rw [← hs] at c1
 have s2 : f79 0 (G x w b 26 l 0 who pos) = some (G x (wSet w (qx (cfg x) x.a12) 0) b (if l < x.a4 then 17 else 2) (if l < x.a4 then l + 1 else l) 0 who pos) := by
  refine YzQ hT rfl hwd hz ?_
  by_cases hq : l < x.a4
  · rw [if_pos hq, if_pos hq]
    exact yzi (G x (wSet w (qx (cfg x) x.a12) 0) b 26 l 0 who pos) h0 hq (by show l ≤ 16; omega) (by show 0 ≤ l; omega)
  · rw [if_neg hq, if_neg hq]
    exact ZzQ (G x (wSet w (qx (cfg x) x.a12) 0) b 26 l 0 who pos) hq
 have c2 := Goes.one hT (by show (26 : Int) ≠ 0; omega) s2 rfl rfl
 exact ⟨s + 1 + 1, by omega, c1.trans c2⟩
theorem jyI (h : Turn x) (h0 : x.a13 = 0) (hwd : x.a28 = 1) (hba : x.a20.length ≤ 1000) (htp : x.a33.length ≤ 1000) {w b : List (List PV)} {l left who pos : Int} (hl1 : 1 ≤ l) (hl2 : l ≤ x.a4) (hI : Lay x w b pos) :
 ∃ (k : Nat) (w' b' : List (List PV)) (who' pos' : Int), (k : Int) ≤ 8 + x.a6 ∧ Goes k (G x w b 17 l left who pos) (G x w' b' (if l < x.a4 then 17 else 2) (if l < x.a4 then l + 1 else l) 0 who' pos') ∧ Lay x w' b' pos' := by
 have hla : x.a4 ≤ 3 := h.may.la.2
 have hi4 : x.a1 ≤ 4 := h.may.it.2
 have hi1 := h.i1; have hi0 := h.i0
 have hlen := h.len
 have hli := h.line
 have hT1 := Yc h hI.len hI.boxes 17 l left who pos
 have hb2 : (b.set x.a12.toNat [PV.list 147 x.a20]).length = x.a15.length := by rw [List.length_set, hI.boxes]
 have c1 : Goes 1 (G x w b 17 l left who pos) (G x w (b.set x.a12.toNat [PV.list 147 x.a20]) 18 l left who pos) := Goes.one hT1 (by show (17 : Int) ≠ 0; omega) (Yz5 hT1 rfl hba) rfl rfl
 generalize b.set x.a12.toNat [PV.list 147 x.a20] = b2 at hb2 c1
 have hT2 := Yc h hI.len hb2 18 l left who pos
 have hw2 : (wSet w (qx (cfg x) x.a12) (ju x.a17 l)).length = x.a14.length := by rw [yi, hI.len]
 have c2 : Goes 1 (G x w b2 18 l left who pos) (G x (wSet w (qx (cfg x) x.a12) (ju x.a17 l)) b2 19 l left who pos) := Goes.one hT2 (by show (18 : Int) ≠ 0; omega) (Qz5 hT2 rfl) rfl rfl
 have hT3 := Yc h hw2 hb2 19 l left who pos
 obtain ⟨pos', hp0, hp1, hsw0⟩ := Jz5 hT3 rfl hl1 hl2 hwd hI.pos0 hI.pos1 htp
 have hsl : zi (cfg x) x.a17 l 0 = qm (cfg x) x.a17 l 0 ∧ 0 ≤ qm (cfg x) x.a17 l 0 ∧ qm (cfg x) x.a17 l 0 < ((wSet w (qx (cfg x) x.a12) (ju x.a17 l)).length : Int) := Qzr hT3 hl1 hl2
 have hsw : f79 0 (G x (wSet w (qx (cfg x) x.a12) (ju x.a17 l)) b2 19 l left who pos) = some (G x (wSet (wSet w (qx (cfg x) x.a12) (ju x.a17 l)) (qm (cfg x) x.a17 l 0) (x.a12 + 1)) b2 23 l x.a6 who pos') ∨
  (1 ≤ wAt (wSet w (qx (cfg x) x.a12) (ju x.a17 l)) (qm (cfg x) x.a17 l 0) ∧ wAt (wSet w (qx (cfg x) x.a12) (ju x.a17 l)) (qm (cfg x) x.a17 l 0) ≤ x.a0 ∧ wAt (wSet w (qx (cfg x) x.a12) (ju x.a17 l)) (qm (cfg x) x.a17 l 0) ≠ x.a12 + 1 ∧
    f79 0 (G x (wSet w (qx (cfg x) x.a12) (ju x.a17 l)) b2 19 l left who pos) = some (G x (wSet (wSet w (qx (cfg x) x.a12) (ju x.a17 l)) (qm (cfg x) x.a17 l 0) (x.a12 + 1)) b2 20 l left (wAt (wSet w (qx (cfg x) x.a12) (ju x.a17 l)) (qm (cfg x) x.a17 l 0) - 1) pos')) := hsw0
 clear hsw0
 have hs0 : 0 ≤ qm (cfg x) x.a17 l 0 := hsl.2.1
 have hw5 : 1 ≤ x.a5 := h.may.wi.1
 have hsline : ∀ t, 0 ≤ t → qm (cfg x) x.a17 l 0 ≠ qx (cfg x) t := fun t ht => by
  have := Jz3 h.may hi0 hi1 hl1 hl2 (Int.le_refl 0) (show (0 : Int) < (cfg x).a5 by show (0 : Int) < x.a5; omega) ht
  omega
 have hw3 : (wSet (wSet w (qx (cfg x) x.a12) (ju x.a17 l)) (qm (cfg x) x.a17 l 0) (x.a12 + 1)).length = x.a14.length := by rw [yi, hw2]
 have hz3 : wAt (wSet (wSet w (qx (cfg x) x.a12) (ju x.a17 l)) (qm (cfg x) x.a17 l 0) (x.a12 + 1)) (qx (cfg x) x.a12) = ju x.a17 l := by
  rw [yp _ hs0 hli.1 (hsline _ h.t0), Qd _ hli.1 (by rw [hI.len]; exact hli.2)]
 have hrest3 : ∀ q, 0 ≤ q → q ≠ qx (cfg x) x.a12 → q ≠ qm (cfg x) x.a17 l 0 → wAt (wSet (wSet w (qx (cfg x) x.a12) (ju x.a17 l)) (qm (cfg x) x.a17 l 0) (x.a12 + 1)) q = wAt w q := fun q hq n1 n2 => by
  rw [yp _ hs0 hq (Ne.symm n2), yp _ hli.1 hq (Ne.symm n1)]
 generalize wSet (wSet w (qx (cfg x) x.a12) (ju x.a17 l)) (qm (cfg x) x.a17 l 0) (x.a12 + 1) = w3 at hw3 hz3 hrest3 hsw
 have fin : ∀ w4 who4, w4.length = x.a14.length → wAt w4 (qx (cfg x) x.a12) = ju x.a17 l → (∀ q, 0 ≤ q → q ≠ qx (cfg x) x.a12 → q ≠ qm (cfg x) x.a17 l 0 → wAt w4 q = wAt w q) → ∀ k3 : Nat, (k3 : Int) ≤ 4 → Goes k3 (G x (wSet w (qx (cfg x) x.a12) (ju x.a17 l)) b2 19 l left who pos) (G x w4 b2 23 l x.a6 who4 pos') →
  ∃ (k : Nat) (w' b' : List (List PV)) (who' pos' : Int), (k : Int) ≤ 8 + x.a6 ∧ Goes k (G x w b 17 l left who pos) (G x w' b' (if l < x.a4 then 17 else 2) (if l < x.a4 then l + 1 else l) 0 who' pos') ∧ Lay x w' b' pos' := by
  intro w4 who4 g1 g2 g3 k3 hk3 c3
  obtain ⟨k4, hk4, c4⟩ := Zz6 h h0 hwd g1 hb2 (who := who4) (pos := pos') hl1 hl2 g2
  refine ⟨1 + 1 + k3 + k4, _, _, _, _, by omega, ((c1.trans c2).trans c3).trans c4, ?_⟩
  refine ⟨by rw [yi, g1], hb2, fun t ht0 ht1 => ?_, hp0, hp1, fun q hq n1 n2 => ?_⟩
  · by_cases e : t = x.a12
    · rw [e, Qd _ hli.1 (by rw [g1]; exact hli.2)]
    · have ht := Zg h.may ht0 (show t < (cfg x).a0 from ht1)
      rw [yp _ hli.1 ht.1 (qzz (Ne.symm e)), g3 _ ht.1 (qzz e) (Ne.symm (hsline t ht0))]
      exact hI.lines t ht0 ht1
  · rw [yp _ hli.1 hq (Ne.symm (n1 _ h.t0 h.t1)), g3 _ hq (n1 _ h.t0 h.t1) (n2 l hl1 hl2)]
    exact hI.other q hq n1 n2
 rcases hsw with hsw | ⟨q1, q2, q3, hsw⟩
 · exact fin w3 who hw3 hz3 hrest3 1 (by omega) (Goes.one hT3 (by show (19 : Int) ≠ 0; omega) hsw rfl rfl)
 · -- another one's number lay there
   generalize wAt (wSet w (qx (cfg x) x.a12) (ju x.a17 l)) (qm (cfg x) x.a17 l 0) = q at q1 q2 q3 hsw
   have q2' : q ≤ x.a0 := q2
   have q3' : q ≠ x.a12 + 1 := q3
   have c3 : Goes 1 (G x (wSet w (qx (cfg x) x.a12) (ju x.a17 l)) b2 19 l left who pos) (G x w3 b2 20 l left (q - 1) pos') := Goes.one hT3 (by show (19 : Int) ≠ 0; omega) hsw rfl rfl
   have hT4 := Yc h hw3 hb2 20 l left (q - 1) pos'
   have c4 : Goes 1 (G x w3 b2 20 l left (q - 1) pos') (G x (wSet w3 (qx (cfg x) x.a12) 0) b2 21 l left (q - 1) pos') := Goes.one hT4 (by show (20 : Int) ≠ 0; omega) (zz6 hT4 rfl hz3) rfl rfl
   have hw4 : (wSet w3 (qx (cfg x) x.a12) 0).length = x.a14.length := by rw [yi, hw3]
   have hT5 := Yc h hw4 hb2 21 l left (q - 1) pos'
   have hne : wAt (wSet w3 (qx (cfg x) x.a12) 0) (qx (cfg x) (q - 1)) ≠ ju x.a17 l := by
    have ht := Zg h.may (show 0 ≤ q - 1 by omega) (show q - 1 < (cfg x).a0 by show q - 1 < x.a0; omega)
    rw [yp _ hli.1 ht.1 (qzz (by omega)), hrest3 _ ht.1 (qzz (by omega)) (Ne.symm (hsline _ (by omega))), hI.lines _ (by omega) (by omega)]
    exact Ne.symm (Jyo ⟨hi0, by omega⟩ ⟨by omega, by omega⟩)
   have c5 : Goes 1 (G x (wSet w3 (qx (cfg x) x.a12) 0) b2 21 l left (q - 1) pos') (G x (wSet w3 (qx (cfg x) x.a12) 0) b2 24 l left (q - 1) pos') := Goes.one hT5 (by show (21 : Int) ≠ 0; omega) (Jzr hT5 rfl (by show 0 ≤ q - 1; omega) (by show q - 1 < x.a0; omega) hne) rfl rfl
   have hT6 := Yc h hw4 hb2 24 l left (q - 1) pos'
   have c6 : Goes 1 (G x (wSet w3 (qx (cfg x) x.a12) 0) b2 24 l left (q - 1) pos') (G x (wSet (wSet w3 (qx (cfg x) x.a12) 0) (qx (cfg x) x.a12) (ju x.a17 l)) b2 23 l x.a6 (q - 1) pos') := Goes.one hT6 (by show (24 : Int) ≠ 0; omega) (zzi hT6 rfl) rfl rfl
   refine fin _ (q - 1) (by rw [yi, hw4]) (Qd _ hli.1 (by rw [hw4]; exact hli.2)) (fun p hp n1 n2 => ?_) (1 + 1 + 1 + 1) (by omega) (((c3.trans c4).trans c5).trans c6)
   rw [yp _ hli.1 hp (Ne.symm n1), yp _ hli.1 hp (Ne.symm n1)]
   exact hrest3 p hp n1 n2
theorem Qyd (h : Turn x) (h0 : x.a13 = 0) (hwd : x.a28 = 1) (hba : x.a20.length ≤ 1000) (htp : x.a33.length ≤ 1000) : ∀ (r : Nat) (l : Int) (w b : List (List PV)) (left who pos : Int), 1 ≤ l → l + r = x.a4 → Lay x w b pos →
 ∃ (k : Nat) (w' b' : List (List PV)) (l' who' pos' : Int), (k : Int) ≤ (r + 1) * (8 + x.a6) ∧ Goes k (G x w b 17 l left who pos) (G x w' b' 2 l' 0 who' pos') ∧ Lay x w' b' pos'
 | 0, l, w, b, left, who, pos, h1, h2, hI => by
   obtain ⟨k, w', b', who', pos', k1, k2, k3⟩ := jyI h h0 hwd hba htp (left := left) (who := who) h1 (by omega) hI
   rw [if_neg (by omega), if_neg (by omega)] at k2
   exact ⟨k, w', b', l, who', pos', by simpa using k1, k2, k3⟩
 | r + 1, l, w, b, left, who, pos, h1, h2, hI => by
   obtain ⟨k, w', b', who', pos', k1, k2, k3⟩ := jyI h h0 hwd hba htp (left := left) (who := who) h1 (by omega) hI
   rw [if_pos (by omega), if_pos (by omega)] at k2
   obtain ⟨k', w2, b2, l2, who2, pos2, g1, g2, g3⟩ := Qyd h h0 hwd hba htp r (l + 1) w' b' 0 who' pos' (by omega) (by omega) k3
   refine ⟨k + k', w2, b2, l2, who2, pos2, ?_, k2.trans g2, g3⟩
   have e : ((r + 1 : Nat) : Int) + 1 = ((r : Int) + 1) + 1 := by omega
   rw [e, Int.add_mul ((r : Int) + 1) 1, Int.one_mul]
   omega
end
set_option maxRecDepth 10000
structure Quiet (c : S23) (w : List (List PV)) : Prop where
 nodes : ∀ i n, 0 ≤ i → i < c.a1 → 1 ≤ n → n < pw c.a3 → wAt w (Zw c i n) = 0
 lines : ∀ t, 0 ≤ t → t < c.a0 → wAt w (qx c t) = 0
structure Start (x : S131) : Prop where
 turn : Turn x
 ph : x.a16 = 1
 now : x.a13 = 0
 one : x.a20.length = 1
 kids : x.a21 = []
 held : x.a22 = []
 stop : x.a23 = 0
 node : 0 < x.a3 → 1 ≤ x.a24 ∧ x.a24 < pw x.a3
 place : x.a25 = 0
 wid : x.a28 = 1
 tp : x.a33.length ≤ 1000
 p0 : 0 ≤ x.a34
 p1 : x.a34 ≤ (x.a33.length : Int)
 quiet : Quiet (cfg x) x.a14
structure Rests (x z : S131) : Prop where
 cfg : cfg z = cfg x
 th : z.a12 = x.a12
 now : z.a13 = x.a13
 idle : z.a16 = 0
 item : z.a17 = x.a17
 tag : z.a18 = x.a18
 v : z.a19 = x.a19
 wid : z.a28 = 1
 prior : z.a30 = qj x
 done : z.a36 = true
 log : z.a35.length = 1
 boxes : z.a15.length = x.a15.length
 tape : z.a33 = x.a33
 p0 : 0 ≤ z.a34
 p1 : z.a34 ≤ (x.a33.length : Int)
 len : z.a14.length = x.a14.length
 cell : wAt z.a14 (Zv (Go.Proofs.YtgfnpgnfklcicaaGreatS.cfg x) x.a17) = zT x
 cells : ∀ i, 0 ≤ i → i < x.a1 → i ≠ x.a17 → wAt z.a14 (Zv (Go.Proofs.YtgfnpgnfklcicaaGreatS.cfg x) i) = wAt x.a14 (Zv (Go.Proofs.YtgfnpgnfklcicaaGreatS.cfg x) i)
 quiet : Quiet (Go.Proofs.YtgfnpgnfklcicaaGreatS.cfg x) z.a14
section
variable {x : S131}
theorem JS (h : Turn x) : (clr x).length = x.a14.length := yi _ _ _
theorem Zl (h : Turn x) (hq : Quiet (cfg x) x.a14) {q : Int} (h0 : 0 ≤ q) : wAt (clr x) q = wAt x.a14 q := by
 by_cases e : q = qx (cfg x) x.a12
 · rw [e]
   unfold clr
   rw [Qd _ h.line.1 h.line.2, hq.lines _ h.t0 h.t1]
 · exact yp _ h.line.1 h0 (Ne.symm e)
theorem finish {y z : S131} (hs : Start x) (hT : Turn y) (e1 : cfg y = cfg x) (e2 : y.a12 = x.a12) (e3 : y.a13 = x.a13) (e4 : y.a17 = x.a17) (e5 : y.a18 = x.a18) (e6 : y.a19 = x.a19) (e7 : y.a20 = x.a20) (e8 : y.a28 = x.a28)
 (e9 : y.a15.length = x.a15.length) (e10 : y.a33 = x.a33) (g0 : 0 ≤ y.a34) (g1 : y.a34 ≤ (x.a33.length : Int)) (hw : y.a14.length = x.a14.length) (hq : Quiet (cfg x) y.a14)
 (hc : ∀ i, 0 ≤ i → i < x.a1 → wAt y.a14 (Zv (cfg x) i) = wAt x.a14 (Zv (cfg x) i)) (e : Ends y z) : Rests x z := by
 have hcv : qj y = qj x := by
  unfold qj
  rw [e1, e4]
  exact hc _ hs.turn.i0 hs.turn.i1
 have h9 : y.a9 = x.a9 := congrArg S23.a9 e1
 have h10 : y.a10 = x.a10 := congrArg S23.a10 e1
 have hnv : zT y = zT x := by
  unfold zT
  rw [hcv, e7, h9, h10]
 have hcell := e.cell
 have hother := e.other
 rw [e1, e4, hnv] at hcell
 rw [e1, e4] at hother
 have m := hs.turn.may
 refine ⟨e.cfg.trans e1, e.th.trans e2, e.now.trans e3, e.idle, e.item.trans e4, e.tag.trans e5, e.v.trans e6, (e.wid.trans e8).trans hs.wid, e.prior.trans hcv, e.done, by rw [e.log, e7, hs.one], by rw [e.boxes, e9], e.tape.trans e10, by rw [e.at_]; exact g0, by rw [e.at_]; exact g1, by rw [e.len, hw], hcell, fun i i0 i1 ne => ?_, ⟨fun i n i0 i1 n0 n1 => ?_, fun t t0 t1 => ?_⟩⟩
 · rw [hother _ (Zd m i0 i1).1 (fun q => ne (Yza m i0 i1 hs.turn.i0 hs.turn.i1 q)), hc i i0 i1]
 · rw [hother _ (Yd m i0 i1 n0 n1).1 (fun q => YG m hs.turn.i0 hs.turn.i1 i0 i1 n0 n1 q.symm)]
   exact hq.nodes i n i0 i1 n0 n1
 · have := ZG m hs.turn.i0 hs.turn.i1 t0
   rw [hother _ (Zg m t0 t1).1 (fun q => by omega)]
   exact hq.lines t t0 t1
theorem ZyI {d : Int} (h : 0 ≤ d ∧ d ≤ 4) : pw d = 2 ^ d.toNat := by
 have hd : d = 0 ∨ d = 1 ∨ d = 2 ∨ d = 3 ∨ d = 4 := by omega
 rcases hd with rfl | rfl | rfl | rfl | rfl <;> rfl
theorem QzQ (hs : Start x) (h1 : f79 0 x = some { x with a14 := clr x, a16 := 2 }) : ∃ (k : Nat) (y z : S131), k ≤ 2 ∧ Goes k x y ∧ y.a16 ≠ 0 ∧ f79 0 y = some z ∧ Rests x z := by
 have hT := hs.turn
 have hT2 : Turn { x with a14 := clr x, a16 := 2 } := ⟨hT.may, hT.t0, hT.t1, hT.i0, hT.i1, by show ((clr x).length : Int) = _; rw [JS hT]; exact hT.words, hT.boxes, hT.log, hT.done⟩
 obtain ⟨k, y, z, k1, k2, k3, k4, k5⟩ := zF hT2 rfl (by show x.a20.length ≤ 1000; rw [hs.one]; omega) hs.kids
 have c1 := Goes.one hT (by rw [hs.ph]; omega) h1 rfl rfl
 refine ⟨1 + k, y, z, by omega, c1.trans k2, k3, k4, finish hs hT2 rfl rfl rfl rfl rfl rfl rfl rfl rfl rfl hs.p0 hs.p1 (JS hT) ?_ ?_ k5⟩
 · exact ⟨fun i n i0 i1 n0 n1 => by rw [Zl hT hs.quiet (Yd hT.may i0 i1 n0 n1).1]; exact hs.quiet.nodes i n i0 i1 n0 n1, fun t t0 t1 => by rw [Zl hT hs.quiet (Zg hT.may t0 t1).1]; exact hs.quiet.lines t t0 t1⟩
 · exact fun i i0 i1 => Zl hT hs.quiet (Zd hT.may i0 i1).1
theorem Yz6 (hs : Start x) (hb : x.a2 = 2) (hd : 0 < x.a3) : ∃ (k : Nat) (y z : S131), (k : Int) ≤ 2 + 4 * x.a3 ∧ Goes k x y ∧ y.a16 ≠ 0 ∧ f79 0 y = some z ∧ Rests x z := by
 have hT := hs.turn
 have m := hT.may
 have hde : x.a3 ≤ 4 := m.de.2
 obtain ⟨n0, n1⟩ := hs.node hd
 have hT1 : Turn { x with a14 := clr x } := ⟨hT.may, hT.t0, hT.t1, hT.i0, hT.i1, by show ((clr x).length : Int) = _; rw [JS hT]; exact hT.words, hT.boxes, hT.log, hT.done⟩
 have h1 : f79 0 x = some (T { x with a14 := clr x } (clr x) 4 [] x.a24 0) := by
  rw [JzR hT hs.ph hb hd]
  have e1 := hs.held; have e2 := hs.place
  show some _ = some { x with a14 := clr x, a16 := 4, a22 := [], a24 := x.a24, a25 := 0 }
  rw [← e1, ← e2]
 have c1 := Goes.one hT (by rw [hs.ph]; omega) h1 (show x.a35 = x.a35 from rfl) (show x.a36 = x.a36 from rfl)
 have hI : Inv { x with a14 := clr x } (clr x) [] := ⟨rfl, fun p p1 p2 => by
  rw [if_neg (by simp)]
  show wAt (clr x) (Zw (cfg x) x.a17 p) = 0
  rw [Zl hT hs.quiet (Yd m hT.i0 hT.i1 p1 p2).1]
  exact hs.quiet.nodes _ _ hT.i0 hT.i1 p1 p2, fun q _ _ => rfl⟩
 obtain ⟨k, w, H, k1, k2, k3, k4, k5, k6, k7⟩ := yzq hT1 hs.stop x.a3.toNat x.a24 [] (clr x) n0 (by rw [← ZyI ⟨by omega, hde⟩]; exact n1) n1 (by simp) (by simp) List.nodup_nil hI (by simp; omega)
 have hne : 0 < H.length := List.length_pos_iff.2 k4
 obtain ⟨w2, g1, g2⟩ := J2 hT1 hs.stop k5 k6 (by simp at k7; omega) (H.length - 1) 0 w (by omega) (by simpa using k3)
 have hTy : Turn (T { x with a14 := clr x } w2 2 H 0 H.length) := zzq hT1 g2.len 2 H 0 H.length
 obtain ⟨k', y, z, t1, t2, t3, t4, t5⟩ := zF hTy rfl (by show x.a20.length ≤ 1000; rw [hs.one]; omega) hs.kids
 have g1' : Goes (2 * (H.length - 1 + 1)) (T { x with a14 := clr x } w 7 H 0 0) (T { x with a14 := clr x } w2 2 H 0 H.length) := g1
 have hline : ∀ t p, 0 ≤ t → t < x.a0 → 1 ≤ p → p < pw x.a3 → qx (cfg x) t ≠ Zw (cfg x) x.a17 p := fun t p t0 t1 p0 p1 q => by
  have := qzr m hT.i0 hT.i1 p1 t0; omega
 refine ⟨1 + k + 2 * (H.length - 1 + 1) + k', y, z, by simp at k7; omega, ((c1.trans k2).trans g1').trans t2, t3, t4, finish hs hTy rfl rfl rfl rfl rfl rfl rfl rfl rfl rfl hs.p0 hs.p1 (by show w2.length = x.a14.length; rw [g2.len]; exact JS hT) ⟨fun i n i0 i1 n0 n1 => ?_, fun t t0 t1 => ?_⟩ (fun i i0 i1 => ?_) t5⟩
 · show wAt w2 (Zw (cfg x) i n) = 0
   by_cases e : i = x.a17
   · subst e
     have := g2.nodes n n0 n1
     rw [if_neg (by simp)] at this
     exact this
   · have h3 := g2.other (Zw (cfg x) i n) (Yd m i0 i1 n0 n1).1 (fun p p0 p1 q => e (Qza m i0 i1 hT.i0 hT.i1 n0 n1 p0 p1 q).1)
     rw [h3]
     show wAt (clr x) _ = 0
     rw [Zl hT hs.quiet (Yd m i0 i1 n0 n1).1]
     exact hs.quiet.nodes i n i0 i1 n0 n1
 · show wAt w2 (qx (cfg x) t) = 0
   rw [g2.other (qx (cfg x) t) (Zg m t0 t1).1 (fun p p0 p1 q => hline t p t0 t1 p0 p1 q)]
   show wAt (clr x) _ = 0
   rw [Zl hT hs.quiet (Zg m t0 t1).1]
   exact hs.quiet.lines t t0 t1
 · show wAt w2 (Zv (cfg x) i) = _
   rw [g2.other (Zv (cfg x) i) (Zd m i0 i1).1 (fun p p0 p1 q => YG m i0 i1 hT.i0 hT.i1 p0 p1 q)]
   exact Zl hT hs.quiet (Zd m i0 i1).1
theorem jyn (hs : Start x) (hb : x.a2 = 3) (hd : 0 < x.a4) : ∃ (k : Nat) (y z : S131), (k : Int) ≤ 2 + x.a4 * (8 + x.a6) ∧ Goes k x y ∧ y.a16 ≠ 0 ∧ f79 0 y = some z ∧ Rests x z := by
 have hT := hs.turn
 have m := hT.may
 have hla : x.a4 ≤ 3 := m.la.2
 have hw5 : 1 ≤ x.a5 := m.wi.1
 have hT1 : Turn { x with a14 := clr x } := ⟨hT.may, hT.t0, hT.t1, hT.i0, hT.i1, by show ((clr x).length : Int) = _; rw [JS hT]; exact hT.words, hT.boxes, hT.log, hT.done⟩
 have h1 : f79 0 x = some (G { x with a14 := clr x } (clr x) x.a15 17 1 x.a27 x.a29 x.a34) := by
  rw [Qz4 hT hs.ph hb hd]
  rfl
 have c1 := Goes.one hT (by rw [hs.ph]; omega) h1 (show x.a35 = x.a35 from rfl) (show x.a36 = x.a36 from rfl)
 have hI : Lay { x with a14 := clr x } (clr x) x.a15 x.a34 := ⟨rfl, rfl, fun t t0 t1 => by
  show wAt (clr x) (qx (cfg x) t) = 0
  rw [Zl hT hs.quiet (Zg m t0 t1).1]
  exact hs.quiet.lines t t0 t1, hs.p0, hs.p1, fun q _ _ _ => rfl⟩
 obtain ⟨k, w, b, l, who, pos, k1, k2, k3⟩ := Qyd hT1 hs.now hs.wid (by show x.a20.length ≤ 1000; rw [hs.one]; omega) hs.tp (x.a4.toNat - 1) 1 (clr x) x.a15 x.a27 x.a29 x.a34 (by omega) (by show (1 : Int) + ((x.a4.toNat - 1 : Nat) : Int) = x.a4; omega) hI
 have hTy : Turn (G { x with a14 := clr x } w b 2 l 0 who pos) := Yc hT1 k3.len k3.boxes 2 l 0 who pos
 obtain ⟨k', y, z, t1, t2, t3, t4, t5⟩ := zF hTy rfl (by show x.a20.length ≤ 1000; rw [hs.one]; omega) hs.kids
 have k1' : (k : Int) ≤ x.a4 * (8 + x.a6) := by
  have e : (((x.a4.toNat - 1 : Nat) : Int) + 1) = x.a4 := by omega
  have k1 : (k : Int) ≤ (((x.a4.toNat - 1 : Nat) : Int) + 1) * (8 + x.a6) := k1
  rw [e] at k1
  exact k1
 have hslot : ∀ i p, 0 ≤ i → i < x.a1 → 1 ≤ p → p < pw x.a3 → ∀ l, 1 ≤ l → l ≤ x.a4 → Zw (cfg x) i p ≠ qm (cfg x) x.a17 l 0 := fun i p i0 i1 p0 p1 l l0 l1 => yz4 m i0 i1 p0 p1 hT.i0 hT.i1 l0 l1 (Int.le_refl 0) (show (0 : Int) < x.a5 by omega)
 refine ⟨1 + k + k', y, z, by omega, (c1.trans k2).trans t2, t3, t4, finish hs hTy rfl rfl rfl rfl rfl rfl rfl rfl k3.boxes rfl k3.pos0 k3.pos1 (by show w.length = x.a14.length; rw [k3.len]; exact JS hT) ⟨fun i n i0 i1 n0 n1 => ?_, fun t t0 t1 => ?_⟩ (fun i i0 i1 => ?_) t5⟩
 · show wAt w (Zw (cfg x) i n) = 0
   rw [k3.other (Zw (cfg x) i n) (Yd m i0 i1 n0 n1).1 (fun t t0 t1 q => by have := qzr m i0 i1 n1 t0; have q' : Zw (cfg x) i n = qx (cfg x) t := q; omega) (fun l l0 l1 => hslot i n i0 i1 n0 n1 l l0 l1)]
   show wAt (clr x) _ = 0
   rw [Zl hT hs.quiet (Yd m i0 i1 n0 n1).1]
   exact hs.quiet.nodes i n i0 i1 n0 n1
 · exact k3.lines t t0 t1
 · show wAt w (Zv (cfg x) i) = _
   rw [k3.other (Zv (cfg x) i) (Zd m i0 i1).1 (fun t t0 t1 q => by have := ZG m i0 i1 t0; have q' : Zv (cfg x) i = qx (cfg x) t := q; omega) (fun l l0 l1 => zz4 m i0 i1 hT.i0 hT.i1 l0 l1 (Int.le_refl 0) (show (0 : Int) < x.a5 by omega))]
   exact Zl hT hs.quiet (Zd m i0 i1).1
theorem solo (hs : Start x) : ∃ (k : Nat) (y z : S131), (k : Int) + 1 ≤ 20 + 8 * x.a3 + x.a4 * (20 + 2 * x.a6) ∧ Goes k x y ∧ y.a16 ≠ 0 ∧ f79 0 y = some z ∧ Rests x z := by
 have m := hs.turn.may
 have hb1 : 1 ≤ x.a2 := m.ba.1
 have hb2 : x.a2 ≤ 3 := m.ba.2
 have hd : 0 ≤ x.a3 := m.de.1
 have hl : 0 ≤ x.a4 := m.la.1
 have hsp : 0 ≤ x.a6 := m.sp.1
 have hm : x.a4 * (8 + x.a6) ≤ x.a4 * (20 + 2 * x.a6) := Int.mul_le_mul_of_nonneg_left (by omega) hl
 have hm0 : 0 ≤ x.a4 * (20 + 2 * x.a6) := Int.mul_nonneg hl (by omega)
 have plain : f79 0 x = some { x with a14 := clr x, a16 := 2 } → ∃ (k : Nat) (y z : S131), (k : Int) + 1 ≤ 20 + 8 * x.a3 + x.a4 * (20 + 2 * x.a6) ∧ Goes k x y ∧ y.a16 ≠ 0 ∧ f79 0 y = some z ∧ Rests x z := fun h => by
  obtain ⟨k, y, z, k1, k2⟩ := QzQ hs h
  exact ⟨k, y, z, by omega, k2⟩
 rcases (show x.a2 = 1 ∨ x.a2 = 2 ∨ x.a2 = 3 by omega) with h | h | h
 · exact plain (zzQ hs.turn hs.ph h)
 · by_cases hq : 0 < x.a3
   · obtain ⟨k, y, z, k1, k2⟩ := Yz6 hs h hq
     exact ⟨k, y, z, by omega, k2⟩
   · exact plain (yzQ hs.turn hs.ph h (by omega))
 · by_cases hq : 0 < x.a4
   · obtain ⟨k, y, z, k1, k2⟩ := jyn hs h hq
     exact ⟨k, y, z, by omega, k2⟩
   · exact plain (qzQ hs.turn hs.ph h (by omega))
end
set_option maxRecDepth 10000
def JzQ (d t : Int) : Int := IntKind.i64.wrap (↑(BitVec.ofInt (64 : Nat) (IntKind.i64.wrap ((1 : Int) * (2 : Int) ^ min (IntKind.i64.wrap (d - (1 : Int))).toNat (64 : Nat))) ||| BitVec.ofInt (64 : Nat) (IntKind.i64.wrap (↑(BitVec.ofInt (64 : Nat) (t.fdiv ((2 : Int) ^ (1 : Nat))) &&& BitVec.ofInt (64 : Nat) (IntKind.i64.wrap (IntKind.i64.wrap ((1 : Int) * (2 : Int) ^ min (IntKind.i64.wrap (d - (1 : Int))).toNat (64 : Nat)) - (1 : Int)))).toNat : Int))).toNat : Int)
theorem Zyn : ∀ (d : Fin 4) (t : Fin 16), 1 ≤ JzQ ((d.val : Int) + 1) (t.val : Int) ∧ JzQ ((d.val : Int) + 1) (t.val : Int) < pw ((d.val : Int) + 1) := by decide +kernel
theorem jyR {d t : Int} (h1 : 1 ≤ d) (h2 : d ≤ 4) (h3 : 0 ≤ t) (h4 : t < 16) : 1 ≤ JzQ d t ∧ JzQ d t < pw d := by
 have h := Zyn ⟨(d - 1).toNat, by omega⟩ ⟨t.toNat, by omega⟩
 simp only at h
 rw [show (((d - 1).toNat : Nat) : Int) + 1 = d by omega, show ((t.toNat : Nat) : Int) = t by omega] at h
 exact h
def qzi (t item tag v wid node until_ : Int) : S91 := ⟨1, item, tag, v, [[PV.int .i64 t, PV.int .i64 tag, PV.int .i64 v]], [], [], 0, node, 0, 0, 0, wid, 0, 0, 0, until_⟩
theorem Qz6 {c : S23} (m : May c) {t : Int} (h0 : 0 ≤ t) (h1 : t < c.a0) (th : S91) (item : Int) (op : S29) (now : Int) :
 ∃ node u, f65 0 c t th item op now = some (qzi t item op.a0 op.a1 th.a12 node u) ∧ (0 < c.a3 → 1 ≤ node ∧ node < pw c.a3) := by
 have ht : c.a0 ≤ 16 := m.th.2
 have hd := m.de
 by_cases q : c.a3 < 1
 · by_cases r : c.a7 > 0
   · exact ⟨0, _, zz (decide_eq_true q) (zz (decide_eq_true r) rfl), fun k => by omega⟩
   · exact ⟨0, _, zz (decide_eq_true q) (yz (decide_eq_false r) rfl), fun k => by omega⟩
 · have hw : IntKind.i64.wrap (c.a3 - 1) = c.a3 - 1 := w_in (by omega)
   have hl := jyR (d := c.a3) (t := t) (by omega) hd.2 h0 (by omega)
   by_cases r : c.a7 > 0
   · exact ⟨JzQ c.a3 t, _, yz (decide_eq_false q) (zz (decide_eq_true (by rw [hw]; omega)) (zz (decide_eq_true r) rfl)), fun _ => hl⟩
   · exact ⟨JzQ c.a3 t, _, yz (decide_eq_false q) (zz (decide_eq_true (by rw [hw]; omega)) (yz (decide_eq_false r) rfl)), fun _ => hl⟩
set_option maxRecDepth 10000
structure Wld where
 (hist log words boxes : List (List PV)) (now steps : Int) (tl : List (List PV)) (tp : Int) (T : List (List PV))
@[reducible] def eK (e : List PV) : Int := pInt (e.headD PV.undef)
@[reducible] def eT (e : List PV) : Int := pInt (e.tail.headD PV.undef)
@[reducible] def eI (e : List PV) : Int := pInt (e.tail.tail.headD PV.undef)
@[reducible] def eO (e : List PV) : S29 := ⟨pInt (e.tail.tail.tail.headD PV.undef), pInt (e.tail.tail.tail.tail.headD PV.undef)⟩
@[reducible] noncomputable def yX (T : List (List PV)) (t : Int) : S91 := S91r (PV.agg (T.getD t.toNat []))
@[reducible] def thrL (x : S91) : List PV := [PV.int .i64 x.a0, PV.int .i64 x.a1, PV.int .i64 x.a2, PV.int .i64 x.a3, PV.list 147 x.a4, PV.list 186 x.a5, PV.list 3 x.a6, PV.int .i64 x.a7, PV.int .i64 x.a8, PV.int .i64 x.a9, PV.int .i64 x.a10, PV.int .i64 x.a11, PV.int .i64 x.a12, PV.int .i64 x.a13, PV.int .i64 x.a14, PV.int .i64 x.a15, PV.int .i64 x.a16]
@[reducible] def QzZ (y : S131) : S91 := ⟨y.a16, y.a17, y.a18, y.a19, y.a20, y.a21, y.a22, y.a23, y.a24, y.a25, y.a26, y.a27, y.a28, y.a29, y.a30, y.a31, y.a32⟩
@[reducible] def JzZ (c : S23) (t now : Int) (w b : List (List PV)) (h : S91) (tl : List (List PV)) (tp : Int) : S131 := ⟨c.a0, c.a1, c.a2, c.a3, c.a4, c.a5, c.a6, c.a7, c.a8, c.a9, c.a10, c.a11, t, now, w, b, h.a0, h.a1, h.a2, h.a3, h.a4, h.a5, h.a6, h.a7, h.a8, h.a9, h.a10, h.a11, h.a12, h.a13, h.a14, h.a15, h.a16, tl, tp, [], false⟩
@[reducible] noncomputable def Qn (c : S23) (w : Wld) (t : Int) : S131 := JzZ c t w.now w.words w.boxes (yX w.T t) w.tl w.tp
@[reducible] def evt (k t i tag v pr : Int) (d : Bool) (s : Int) : List PV := [PV.int .i64 k, PV.int .i64 t, PV.int .i64 i, PV.int .i64 tag, PV.int .i64 v, PV.int .i64 pr, PV.bool d, PV.int .i64 s]
@[reducible] def jzi (s : Int) (m : List PV) : List PV := [PV.int .i64 (pInt (m.headD PV.undef)), PV.int .i64 (pInt (m.tail.headD PV.undef)), PV.int .i64 (pInt (m.tail.tail.headD PV.undef)), PV.int .i64 (pInt (m.tail.tail.tail.headD PV.undef)), PV.int .i64 (pInt (m.tail.tail.tail.tail.headD PV.undef)), PV.int .i64 s]
@[reducible] noncomputable def ZyR (c : S23) (y : S131) : Bool := ((f49 0 ⟨y.a18, y.a19⟩ y.a30 c.a9 c.a10).getD f49d).y2
@[reducible] noncomputable def qp (c : S23) (w : Wld) (t : Int) : S131 := (f79 0 (Qn c w t)).getD f79d
@[reducible] def yF (w : Wld) : Int := IntKind.i64.wrap (w.steps + 1)
@[reducible] noncomputable def Zzi (w : Wld) (t : Int) (y : S131) (H L : List (List PV)) : Wld := ⟨H, L, y.a14, y.a15, w.now, yF w, y.a33, y.a34, w.T.set t.toNat (thrL (QzZ y))⟩
@[reducible] noncomputable def zR (c : S23) (w : Wld) (e : List PV) : Option S91 := f65 0 c (eT e) (yX w.T (eT e)) (eI e) (eO e) w.now
@[reducible] noncomputable def evtI (w : Wld) (e : List PV) (k : Int) : List PV := evt k (eT e) (eI e) (eO e).a0 (eO e).a1 0 false w.steps
@[reducible] noncomputable def evtR (c : S23) (w : Wld) (t : Int) (y : S131) : List PV := evt 2 t y.a17 y.a18 y.a19 y.a30 (ZyR c y) (yF w)
@[reducible] noncomputable def Yp (w : Wld) (t : Int) : Bool := ((f38 0 (yX w.T t)).getD f38d).y0
@[reducible] def inT (w : Wld) (t : Int) : Bool := decide ((0 : Int) ≤ t) && decide (t < (w.T.length : Int))
noncomputable def qt (c : S23) (w : Wld) (e : List PV) : Wld :=
 bif eK e == 1 then
  bif Yp w (eT e) then { w with hist := w.hist ++ [evtI w e 3] } else { w with hist := w.hist ++ [evtI w e 1], T := w.T.set (eT e).toNat (thrL ((zR c w e).getD f65d)) }
 else bif eK e == 2 then
  bif Yp w (eT e) then Zzi w (eT e) (qp c w (eT e)) (bif (qp c w (eT e)).a36 then w.hist ++ [evtR c w (eT e) (qp c w (eT e))] else w.hist) (w.log ++ (qp c w (eT e)).a35.map (jzi (yF w))) else w
 else bif eK e == 3 then { w with now := IntKind.i64.wrap (w.now + 1) } else w
noncomputable def okW (c : S23) (w : Wld) (e : List PV) : Bool :=
 bif eK e == 1 then inT w (eT e) && decide (w.hist.length + 1 ≤ most) && (Yp w (eT e) || (zR c w e).isSome)
 else bif eK e == 2 then inT w (eT e) && (!Yp w (eT e) || ((f79 0 (Qn c w (eT e))).isSome && decide ((qp c w (eT e)).a35.length ≤ 50) && decide (w.log.length + (qp c w (eT e)).a35.length ≤ most) && decide (w.hist.length + 1 ≤ most) && (!(qp c w (eT e)).a36 || (f49 0 ⟨(qp c w (eT e)).a18, (qp c w (eT e)).a19⟩ (qp c w (eT e)).a30 c.a9 c.a10).isSome)))
 else true
theorem bifT {α : Type} {b : Bool} {x y z : α} (hb : b = true) (h : x = z) : (bif b then x else y) = z := by subst hb; exact h
theorem bifF {α : Type} {b : Bool} {x y z : α} (hb : b = false) (h : y = z) : (bif b then x else y) = z := by subst hb; exact h
theorem jzz {α β : Type} {o : Option α} {f : α → Option β} {a : α} {z : Option β} (h : o = some a) (h2 : f a = z) : o.bind f = z := by subst h; exact h2
theorem yR {S E : Type} {r : S → Option (S ⊕ E)} {N : Nat} (s0 : S) (s1 : Int → List (List PV) → S) (e0 : E) (e1 : List (List PV) → E) (l0 L : List (List PV)) (f : List PV → List PV)
 (hz : L.length = 0 → r s0 = some (.inr e0)) (h0 : 0 < L.length → r s0 = some (.inl (s1 1 (l0 ++ [f (L.getD 0 [])]))))
 (hs : ∀ (i : Nat) l, i < L.length → l.length + 1 ≤ most → r (s1 (i : Int) l) = some (.inl (s1 (IntKind.i64.wrap ((i : Int) + 1)) (l ++ [f (L.getD i [])]))))
 (he : ∀ l, r (s1 (L.length : Int) l) = some (.inr (e1 l))) (hl : l0.length + L.length ≤ most) (hN : L.length + 2 ≤ N) :
 ∃ z, Jv r N s0 = some z ∧ ((L.length = 0 ∧ z = e0) ∨ (0 < L.length ∧ z = e1 (l0 ++ L.map f))) := by
 have hm : most = 1000000 := rfl
 rcases Nat.eq_zero_or_pos L.length with h | h
 · refine ⟨e0, ?_, .inl ⟨h, rfl⟩⟩
   rw [show N = N - 1 + 1 by omega]
   exact Qu (hz h)
 · refine ⟨_, ?_, .inr ⟨h, rfl⟩⟩
   have go : ∀ (m i : Nat), i + m = L.length → 0 < i → ∀ n, Jv r (m + 1 + n) (s1 (i : Int) (l0 ++ (L.take i).map f)) = some (e1 (l0 ++ L.map f)) := by
    intro m
    induction m with
    | zero =>
      intro i hi _ n
      have e : i = L.length := by omega
      subst e
      rw [List.take_length, show 0 + 1 + n = n + 1 by omega]
      exact Qu (he _)
    | succ m ih =>
      intro i hi hp n
      have hi2 : i < L.length := by omega
      rw [show m + 1 + 1 + n = (m + 1 + n) + 1 by omega]
      rw [Yw (hs i _ hi2 (by simp; omega)), Qr (by omega)]
      have e : l0 ++ (L.take i).map f ++ [f (L.getD i [])] = l0 ++ (L.take (i + 1)).map f := by
       rw [List.take_succ_eq_append_getElem hi2, List.map_append, List.append_assoc, List.map_singleton, List.getD_eq_getElem?_getD, List.getElem?_eq_getElem hi2, Option.getD_some]
      rw [e]
      exact ih (i + 1) (by omega) (by omega) n
   rw [show N = (L.length - 1 + 1 + (N - 1 - L.length)) + 1 by omega, Yw (h0 h)]
   have e : [f (L.getD 0 [])] = (L.take 1).map f := by
    cases L with
    | nil => simp at h
    | cons a L => rfl
   rw [e]
   exact go (L.length - 1) 1 (by omega) (by omega) _
noncomputable def stOf (x0 : S23) (x2 : List (List PV)) : f13L19s → Int × Wld
 | .s0 i h w now T => (i, ⟨h, [], w, List.replicate x0.a0.toNat [PV.list 147 []], now, 0, x2, 0, T⟩)
 | .s1 i h l w b now st tl tp T => (i, ⟨h, l, w, b, now, st, tl, tp, T⟩)
 | .s2 i l h w b now st tl tp T => (i, ⟨h, l, w, b, now, st, tl, tp, T⟩)
section
variable {N : Nat} {x0 : S23} {x1 x2 : List (List PV)}
theorem Yyn {i : Int} {h w : List (List PV)} {now : Int} {T : List (List PV)} {Y : S131} (hY : Y = qp x0 (⟨h, [], w, List.replicate x0.a0.toNat [PV.list 147 []], now, 0, x2, 0, T⟩ : Wld) (eT (x1.getD i.toNat []))) (hN : Y.a35.length + 2 ≤ N) (hl : ([] : List (List PV)).length + Y.a35.length ≤ most) :
 ∃ z, Jv (Jl N x0 x1 x2 i h w now T) N .s0 = some z ∧ ((Y.a35.length = 0 ∧ z = .e0) ∨ (0 < Y.a35.length ∧ z = .e1 ([] ++ Y.a35.map (jzi (yF (⟨h, [], w, List.replicate x0.a0.toNat [PV.list 147 []], now, 0, x2, 0, T⟩ : Wld)))))) := by
 subst hY
 refine yR (r := Jl N x0 x1 x2 i h w now T) .s0 .s1 .e0 .e1 [] _ _ (fun q => ?_) (fun q => ?_) (fun i l q1 q2 => ?_) (fun l => ?_) hl hN
 · exact yz (decide_eq_false (fun hq => Nat.not_lt.2 (Nat.le_of_eq q) (Int.natCast_pos.1 hq))) rfl
 · exact zz (decide_eq_true (Int.natCast_pos.2 q)) (zz (Bool.and_eq_true_iff.2 ⟨rfl, decide_eq_true (Int.natCast_pos.2 q)⟩) (rfl))
 · exact zz (decide_eq_true (Int.ofNat_lt.2 q1)) (zz (Bool.and_eq_true_iff.2 ⟨decide_eq_true (Int.natCast_nonneg i), decide_eq_true (Int.ofNat_lt.2 q1)⟩) (zz (decide_eq_true q2) rfl))
 · exact yz (decide_eq_false (Int.lt_irrefl _)) rfl
theorem Qyn {i : Int} {h w : List (List PV)} {now : Int} {T : List (List PV)} (h0 : 0 ≤ i) (h1 : i < (x1.length : Int)) (hN : 100 ≤ N) (ok : okW x0 ⟨h, [], w, List.replicate x0.a0.toNat [PV.list 147 []], now, 0, x2, 0, T⟩ (x1.getD i.toNat []) = true) :
 ∃ s', jl N x0 x1 x2 (.s0 i h w now T) = some (.inl s') ∧ stOf x0 x2 s' = (IntKind.i64.wrap (i + 1), qt x0 ⟨h, [], w, List.replicate x0.a0.toNat [PV.list 147 []], now, 0, x2, 0, T⟩ (x1.getD i.toNat [])) := by
 have a1 : decide (i < (x1.length : Int)) = true := decide_eq_true h1
 have a2 : (decide ((0 : Int) ≤ i) && decide (i < (x1.length : Int))) = true := by rw [a1, decide_eq_true h0]; rfl
 unfold okW at ok
 unfold qt
 cases k1 : (eK (x1.getD i.toNat []) == 1) with
 | true =>
   rw [k1] at ok
   simp only [cond_true, Bool.and_eq_true] at ok ⊢
   have b1 : inT ⟨h, [], w, List.replicate x0.a0.toNat [PV.list 147 []], now, 0, x2, 0, T⟩ (eT (x1.getD i.toNat [])) = true := by simpa [inT] using ok.1.1
   have b2 : h.length + 1 ≤ most := of_decide_eq_true ok.1.2
   cases k2 : Yp ⟨h, [], w, List.replicate x0.a0.toNat [PV.list 147 []], now, 0, x2, 0, T⟩ (eT (x1.getD i.toNat [])) with
   | true => exact ⟨_, bifT a1 (bifT a2 (bifT k1 (zz b1 (zz k2 (zz (decide_eq_true b2) rfl))))), rfl⟩
   | false =>
     have b3 : (zR x0 ⟨h, [], w, List.replicate x0.a0.toNat [PV.list 147 []], now, 0, x2, 0, T⟩ (x1.getD i.toNat [])).isSome = true := by
      have := ok.2
      rw [k2] at this
      simpa using this
     exact ⟨_, bifT a1 (bifT a2 (bifT k1 (zz b1 (yz k2 (zz b3 (zz (decide_eq_true b2) rfl)))))), rfl⟩
 | false =>
 rw [k1] at ok
 simp only [cond_false] at ok ⊢
 cases k3 : (eK (x1.getD i.toNat []) == 2) with
 | true =>
   rw [k3] at ok
   simp only [cond_true, Bool.and_eq_true] at ok ⊢
   have b1 : inT ⟨h, [], w, List.replicate x0.a0.toNat [PV.list 147 []], now, 0, x2, 0, T⟩ (eT (x1.getD i.toNat [])) = true := by simpa [inT] using ok.1
   cases k2 : Yp ⟨h, [], w, List.replicate x0.a0.toNat [PV.list 147 []], now, 0, x2, 0, T⟩ (eT (x1.getD i.toNat [])) with
   | false => exact ⟨_, bifT a1 (bifT a2 (bifF k1 (bifT k3 (bifT b1 (bifF k2 rfl))))), rfl⟩
   | true =>
     have ok2 := ok.2
     rw [k2] at ok2
     simp only [Bool.not_true, Bool.false_or, Bool.and_eq_true] at ok2
     obtain ⟨⟨⟨⟨c1, c2⟩, c3⟩, c4⟩, c5⟩ := ok2
     have c2 := of_decide_eq_true c2
     have c3 := of_decide_eq_true c3
     have c4 : h.length + 1 ≤ most := of_decide_eq_true c4
     obtain ⟨z, z1, z2⟩ := Yyn (N := N) (x0 := x0) (x1 := x1) (x2 := x2) (i := i) (h := h) (w := w) (now := now) (T := T) rfl (by omega) c3
     simp only [cond_true]
     have pre : ∀ {Z : f13L19s} (q : (match z with | .e0 => Tr.run (JH x0 x1 x2 i h w now T) | .e1 qq => Tr.run (zG x0 x1 x2 i h w now T qq)) = some (.inl Z)), jl N x0 x1 x2 (.s0 i h w now T) = some (.inl Z) := fun {Z} q =>
      bifT a1 (bifT a2 (bifF k1 (bifT k3 (bifT b1 (bifT k2 (bifT b1 (bifT c1 (bifT b1 (jzz z1 (by revert q; cases z <;> exact id))))))))))
     cases k5 : (qp x0 ⟨h, [], w, List.replicate x0.a0.toNat [PV.list 147 []], now, 0, x2, 0, T⟩ (eT (x1.getD i.toNat []))).a36 with
     | true =>
       have c6 : (f49 0 ⟨(qp x0 ⟨h, [], w, List.replicate x0.a0.toNat [PV.list 147 []], now, 0, x2, 0, T⟩ (eT (x1.getD i.toNat []))).a18, (qp x0 ⟨h, [], w, List.replicate x0.a0.toNat [PV.list 147 []], now, 0, x2, 0, T⟩ (eT (x1.getD i.toNat []))).a19⟩ (qp x0 ⟨h, [], w, List.replicate x0.a0.toNat [PV.list 147 []], now, 0, x2, 0, T⟩ (eT (x1.getD i.toNat []))).a30 x0.a9 x0.a10).isSome = true := by
        rw [k5] at c5
        simpa using c5
       simp only [cond_true]
       rcases z2 with ⟨e1, rfl⟩ | ⟨e1, rfl⟩
       · rw [List.length_eq_zero_iff.1 e1, List.map_nil, List.append_nil]
         exact ⟨_, pre (zz k5 (zz c6 (zz (decide_eq_true c4) rfl))), rfl⟩
       · exact ⟨_, pre (zz k5 (zz c6 (zz (decide_eq_true c4) rfl))), rfl⟩
     | false =>
       simp only [cond_false]
       rcases z2 with ⟨e1, rfl⟩ | ⟨e1, rfl⟩
       · rw [List.length_eq_zero_iff.1 e1, List.map_nil, List.append_nil]
         exact ⟨_, pre (yz k5 rfl), rfl⟩
       · exact ⟨_, pre (yz k5 rfl), rfl⟩
 | false =>
 simp only [cond_false]
 cases k4 : (eK (x1.getD i.toNat []) == 3) with
 | true => exact ⟨_, bifT a1 (bifT a2 (bifF k1 (bifF k3 (zz k4 rfl)))), rfl⟩
 | false => exact ⟨_, bifT a1 (bifT a2 (bifF k1 (bifF k3 (yz k4 rfl)))), rfl⟩
theorem Jyn {i : Int} {h l w b : List (List PV)} {now st : Int} {tl : List (List PV)} {tp : Int} {T : List (List PV)} {Y : S131} (hY : Y = qp x0 (⟨h, l, w, b, now, st, tl, tp, T⟩ : Wld) (eT (x1.getD i.toNat []))) (hN : Y.a35.length + 2 ≤ N) (hl : (l : List (List PV)).length + Y.a35.length ≤ most) :
 ∃ z, Jv (zk N x0 x1 x2 i h l w b now st tl tp T) N .s0 = some z ∧ ((Y.a35.length = 0 ∧ z = .e0) ∨ (0 < Y.a35.length ∧ z = .e1 (l ++ Y.a35.map (jzi (yF (⟨h, l, w, b, now, st, tl, tp, T⟩ : Wld)))))) := by
 subst hY
 refine yR (r := zk N x0 x1 x2 i h l w b now st tl tp T) .s0 .s1 .e0 .e1 l _ _ (fun q => ?_) (fun q => ?_) (fun i l q1 q2 => ?_) (fun l => ?_) hl hN
 · exact yz (decide_eq_false (fun hq => Nat.not_lt.2 (Nat.le_of_eq q) (Int.natCast_pos.1 hq))) rfl
 · exact zz (decide_eq_true (Int.natCast_pos.2 q)) (zz (Bool.and_eq_true_iff.2 ⟨rfl, decide_eq_true (Int.natCast_pos.2 q)⟩) (zz (decide_eq_true (show l.length + 1 ≤ most from Nat.le_trans (Nat.add_le_add_left q _) hl)) rfl))
 · exact zz (decide_eq_true (Int.ofNat_lt.2 q1)) (zz (Bool.and_eq_true_iff.2 ⟨decide_eq_true (Int.natCast_nonneg i), decide_eq_true (Int.ofNat_lt.2 q1)⟩) (zz (decide_eq_true q2) rfl))
 · exact yz (decide_eq_false (Int.lt_irrefl _)) rfl
theorem zym {i : Int} {h l w b : List (List PV)} {now st : Int} {tl : List (List PV)} {tp : Int} {T : List (List PV)} (h0 : 0 ≤ i) (h1 : i < (x1.length : Int)) (hN : 100 ≤ N) (ok : okW x0 ⟨h, l, w, b, now, st, tl, tp, T⟩ (x1.getD i.toNat []) = true) :
 ∃ s', jl N x0 x1 x2 (.s1 i h l w b now st tl tp T) = some (.inl s') ∧ stOf x0 x2 s' = (IntKind.i64.wrap (i + 1), qt x0 ⟨h, l, w, b, now, st, tl, tp, T⟩ (x1.getD i.toNat [])) := by
 have a1 : decide (i < (x1.length : Int)) = true := decide_eq_true h1
 have a2 : (decide ((0 : Int) ≤ i) && decide (i < (x1.length : Int))) = true := by rw [a1, decide_eq_true h0]; rfl
 unfold okW at ok
 unfold qt
 cases k1 : (eK (x1.getD i.toNat []) == 1) with
 | true =>
   rw [k1] at ok
   simp only [cond_true, Bool.and_eq_true] at ok ⊢
   have b1 : inT ⟨h, l, w, b, now, st, tl, tp, T⟩ (eT (x1.getD i.toNat [])) = true := by simpa [inT] using ok.1.1
   have b2 : h.length + 1 ≤ most := of_decide_eq_true ok.1.2
   cases k2 : Yp ⟨h, l, w, b, now, st, tl, tp, T⟩ (eT (x1.getD i.toNat [])) with
   | true => exact ⟨_, bifT a1 (bifT a2 (bifT k1 (zz b1 (zz k2 (zz (decide_eq_true b2) rfl))))), rfl⟩
   | false =>
     have b3 : (zR x0 ⟨h, l, w, b, now, st, tl, tp, T⟩ (x1.getD i.toNat [])).isSome = true := by
      have := ok.2
      rw [k2] at this
      simpa using this
     exact ⟨_, bifT a1 (bifT a2 (bifT k1 (zz b1 (yz k2 (zz b3 (zz (decide_eq_true b2) rfl)))))), rfl⟩
 | false =>
 rw [k1] at ok
 simp only [cond_false] at ok ⊢
 cases k3 : (eK (x1.getD i.toNat []) == 2) with
 | true =>
   rw [k3] at ok
   simp only [cond_true, Bool.and_eq_true] at ok ⊢
   have b1 : inT ⟨h, l, w, b, now, st, tl, tp, T⟩ (eT (x1.getD i.toNat [])) = true := by simpa [inT] using ok.1
   cases k2 : Yp ⟨h, l, w, b, now, st, tl, tp, T⟩ (eT (x1.getD i.toNat [])) with
   | false => exact ⟨_, bifT a1 (bifT a2 (bifF k1 (bifT k3 (bifT b1 (bifF k2 rfl))))), rfl⟩
   | true =>
     have ok2 := ok.2
     rw [k2] at ok2
     simp only [Bool.not_true, Bool.false_or, Bool.and_eq_true] at ok2
     obtain ⟨⟨⟨⟨c1, c2⟩, c3⟩, c4⟩, c5⟩ := ok2
     have c2 := of_decide_eq_true c2
     have c3 := of_decide_eq_true c3
     have c4 : h.length + 1 ≤ most := of_decide_eq_true c4
     obtain ⟨z, z1, z2⟩ := Jyn (N := N) (x0 := x0) (x1 := x1) (x2 := x2) (i := i) (h := h) (l := l) (w := w) (b := b) (now := now) (st := st) (tl := tl) (tp := tp) (T := T) rfl (by omega) c3
     simp only [cond_true]
     have pre : ∀ {Z : f13L19s} (q : (match z with | .e0 => Tr.run (yG x0 x1 x2 i h l w b now st tl tp T) | .e1 qq => Tr.run (jW x0 x1 x2 i h l w b now st tl tp T qq)) = some (.inl Z)), jl N x0 x1 x2 (.s1 i h l w b now st tl tp T) = some (.inl Z) := fun {Z} q =>
      bifT a1 (bifT a2 (bifF k1 (bifT k3 (bifT b1 (bifT k2 (bifT b1 (bifT c1 (bifT b1 (jzz z1 (by revert q; cases z <;> exact id))))))))))
     cases k5 : (qp x0 ⟨h, l, w, b, now, st, tl, tp, T⟩ (eT (x1.getD i.toNat []))).a36 with
     | true =>
       have c6 : (f49 0 ⟨(qp x0 ⟨h, l, w, b, now, st, tl, tp, T⟩ (eT (x1.getD i.toNat []))).a18, (qp x0 ⟨h, l, w, b, now, st, tl, tp, T⟩ (eT (x1.getD i.toNat []))).a19⟩ (qp x0 ⟨h, l, w, b, now, st, tl, tp, T⟩ (eT (x1.getD i.toNat []))).a30 x0.a9 x0.a10).isSome = true := by
        rw [k5] at c5
        simpa using c5
       simp only [cond_true]
       rcases z2 with ⟨e1, rfl⟩ | ⟨e1, rfl⟩
       · rw [List.length_eq_zero_iff.1 e1, List.map_nil, List.append_nil]
         exact ⟨_, pre (zz k5 (zz c6 (zz (decide_eq_true c4) rfl))), rfl⟩
       · exact ⟨_, pre (zz k5 (zz c6 (zz (decide_eq_true c4) rfl))), rfl⟩
     | false =>
       simp only [cond_false]
       rcases z2 with ⟨e1, rfl⟩ | ⟨e1, rfl⟩
       · rw [List.length_eq_zero_iff.1 e1, List.map_nil, List.append_nil]
         exact ⟨_, pre (yz k5 rfl), rfl⟩
       · exact ⟨_, pre (yz k5 rfl), rfl⟩
 | false =>
 simp only [cond_false]
 cases k4 : (eK (x1.getD i.toNat []) == 3) with
 | true => exact ⟨_, bifT a1 (bifT a2 (bifF k1 (bifF k3 (zz k4 rfl)))), rfl⟩
 | false => exact ⟨_, bifT a1 (bifT a2 (bifF k1 (bifF k3 (yz k4 rfl)))), rfl⟩
theorem yym {i : Int} {h l w b : List (List PV)} {now st : Int} {tl : List (List PV)} {tp : Int} {T : List (List PV)} {Y : S131} (hY : Y = qp x0 (⟨h, l, w, b, now, st, tl, tp, T⟩ : Wld) (eT (x1.getD i.toNat []))) (hN : Y.a35.length + 2 ≤ N) (hl : (l : List (List PV)).length + Y.a35.length ≤ most) :
 ∃ z, Jv (yk N x0 x1 x2 i l h w b now st tl tp T) N .s0 = some z ∧ ((Y.a35.length = 0 ∧ z = .e0) ∨ (0 < Y.a35.length ∧ z = .e1 (l ++ Y.a35.map (jzi (yF (⟨h, l, w, b, now, st, tl, tp, T⟩ : Wld)))))) := by
 subst hY
 refine yR (r := yk N x0 x1 x2 i l h w b now st tl tp T) .s0 .s1 .e0 .e1 l _ _ (fun q => ?_) (fun q => ?_) (fun i l q1 q2 => ?_) (fun l => ?_) hl hN
 · exact yz (decide_eq_false (fun hq => Nat.not_lt.2 (Nat.le_of_eq q) (Int.natCast_pos.1 hq))) rfl
 · exact zz (decide_eq_true (Int.natCast_pos.2 q)) (zz (Bool.and_eq_true_iff.2 ⟨rfl, decide_eq_true (Int.natCast_pos.2 q)⟩) (zz (decide_eq_true (show l.length + 1 ≤ most from Nat.le_trans (Nat.add_le_add_left q _) hl)) rfl))
 · exact zz (decide_eq_true (Int.ofNat_lt.2 q1)) (zz (Bool.and_eq_true_iff.2 ⟨decide_eq_true (Int.natCast_nonneg i), decide_eq_true (Int.ofNat_lt.2 q1)⟩) (zz (decide_eq_true q2) rfl))
 · exact yz (decide_eq_false (Int.lt_irrefl _)) rfl
theorem qym {i : Int} {h l w b : List (List PV)} {now st : Int} {tl : List (List PV)} {tp : Int} {T : List (List PV)} (h0 : 0 ≤ i) (h1 : i < (x1.length : Int)) (hN : 100 ≤ N) (ok : okW x0 ⟨h, l, w, b, now, st, tl, tp, T⟩ (x1.getD i.toNat []) = true) :
 ∃ s', jl N x0 x1 x2 (.s2 i l h w b now st tl tp T) = some (.inl s') ∧ stOf x0 x2 s' = (IntKind.i64.wrap (i + 1), qt x0 ⟨h, l, w, b, now, st, tl, tp, T⟩ (x1.getD i.toNat [])) := by
 have a1 : decide (i < (x1.length : Int)) = true := decide_eq_true h1
 have a2 : (decide ((0 : Int) ≤ i) && decide (i < (x1.length : Int))) = true := by rw [a1, decide_eq_true h0]; rfl
 unfold okW at ok
 unfold qt
 cases k1 : (eK (x1.getD i.toNat []) == 1) with
 | true =>
   rw [k1] at ok
   simp only [cond_true, Bool.and_eq_true] at ok ⊢
   have b1 : inT ⟨h, l, w, b, now, st, tl, tp, T⟩ (eT (x1.getD i.toNat [])) = true := by simpa [inT] using ok.1.1
   have b2 : h.length + 1 ≤ most := of_decide_eq_true ok.1.2
   cases k2 : Yp ⟨h, l, w, b, now, st, tl, tp, T⟩ (eT (x1.getD i.toNat [])) with
   | true => exact ⟨_, bifT a1 (bifT a2 (bifT k1 (zz b1 (zz k2 (zz (decide_eq_true b2) rfl))))), rfl⟩
   | false =>
     have b3 : (zR x0 ⟨h, l, w, b, now, st, tl, tp, T⟩ (x1.getD i.toNat [])).isSome = true := by
      have := ok.2
      rw [k2] at this
      simpa using this
     exact ⟨_, bifT a1 (bifT a2 (bifT k1 (zz b1 (yz k2 (zz b3 (zz (decide_eq_true b2) rfl)))))), rfl⟩
 | false =>
 rw [k1] at ok
 simp only [cond_false] at ok ⊢
 cases k3 : (eK (x1.getD i.toNat []) == 2) with
 | true =>
   rw [k3] at ok
   simp only [cond_true, Bool.and_eq_true] at ok ⊢
   have b1 : inT ⟨h, l, w, b, now, st, tl, tp, T⟩ (eT (x1.getD i.toNat [])) = true := by simpa [inT] using ok.1
   cases k2 : Yp ⟨h, l, w, b, now, st, tl, tp, T⟩ (eT (x1.getD i.toNat [])) with
   | false => exact ⟨_, bifT a1 (bifT a2 (bifF k1 (bifT k3 (bifT b1 (bifF k2 rfl))))), rfl⟩
   | true =>
     have ok2 := ok.2
     rw [k2] at ok2
     simp only [Bool.not_true, Bool.false_or, Bool.and_eq_true] at ok2
     obtain ⟨⟨⟨⟨c1, c2⟩, c3⟩, c4⟩, c5⟩ := ok2
     have c2 := of_decide_eq_true c2
     have c3 := of_decide_eq_true c3
     have c4 : h.length + 1 ≤ most := of_decide_eq_true c4
     obtain ⟨z, z1, z2⟩ := yym (N := N) (x0 := x0) (x1 := x1) (x2 := x2) (i := i) (h := h) (l := l) (w := w) (b := b) (now := now) (st := st) (tl := tl) (tp := tp) (T := T) rfl (by omega) c3
     simp only [cond_true]
     have pre : ∀ {Z : f13L19s} (q : (match z with | .e0 => Tr.run (ZW x0 x1 x2 i l h w b now st tl tp T) | .e1 qq => Tr.run (jG x0 x1 x2 i l h w b now st tl tp T qq)) = some (.inl Z)), jl N x0 x1 x2 (.s2 i l h w b now st tl tp T) = some (.inl Z) := fun {Z} q =>
      bifT a1 (bifT a2 (bifF k1 (bifT k3 (bifT b1 (bifT k2 (bifT b1 (bifT c1 (bifT b1 (jzz z1 (by revert q; cases z <;> exact id))))))))))
     cases k5 : (qp x0 ⟨h, l, w, b, now, st, tl, tp, T⟩ (eT (x1.getD i.toNat []))).a36 with
     | true =>
       have c6 : (f49 0 ⟨(qp x0 ⟨h, l, w, b, now, st, tl, tp, T⟩ (eT (x1.getD i.toNat []))).a18, (qp x0 ⟨h, l, w, b, now, st, tl, tp, T⟩ (eT (x1.getD i.toNat []))).a19⟩ (qp x0 ⟨h, l, w, b, now, st, tl, tp, T⟩ (eT (x1.getD i.toNat []))).a30 x0.a9 x0.a10).isSome = true := by
        rw [k5] at c5
        simpa using c5
       simp only [cond_true]
       rcases z2 with ⟨e1, rfl⟩ | ⟨e1, rfl⟩
       · rw [List.length_eq_zero_iff.1 e1, List.map_nil, List.append_nil]
         exact ⟨_, pre (zz k5 (zz c6 (zz (decide_eq_true c4) rfl))), rfl⟩
       · exact ⟨_, pre (zz k5 (zz c6 (zz (decide_eq_true c4) rfl))), rfl⟩
     | false =>
       simp only [cond_false]
       rcases z2 with ⟨e1, rfl⟩ | ⟨e1, rfl⟩
       · rw [List.length_eq_zero_iff.1 e1, List.map_nil, List.append_nil]
         exact ⟨_, pre (yz k5 rfl), rfl⟩
       · exact ⟨_, pre (yz k5 rfl), rfl⟩
 | false =>
 simp only [cond_false]
 cases k4 : (eK (x1.getD i.toNat []) == 3) with
 | true => exact ⟨_, bifT a1 (bifT a2 (bifF k1 (bifF k3 (zz k4 rfl)))), rfl⟩
 | false => exact ⟨_, bifT a1 (bifT a2 (bifF k1 (bifF k3 (yz k4 rfl)))), rfl⟩
theorem Jz6 (s : f13L19s) (h0 : 0 ≤ (stOf x0 x2 s).1) (h1 : (stOf x0 x2 s).1 < (x1.length : Int)) (hN : 100 ≤ N) (ok : okW x0 (stOf x0 x2 s).2 (x1.getD (stOf x0 x2 s).1.toNat []) = true) :
 ∃ s', jl N x0 x1 x2 s = some (.inl s') ∧ stOf x0 x2 s' = (IntKind.i64.wrap ((stOf x0 x2 s).1 + 1), qt x0 (stOf x0 x2 s).2 (x1.getD (stOf x0 x2 s).1.toNat [])) := by
 cases s with
 | s0 => exact Qyn h0 h1 hN ok
 | s1 => exact zym h0 h1 hN ok
 | s2 => exact qym h0 h1 hN ok
noncomputable def YyR (x0 : S23) (x2 : List (List PV)) : f13L19e → Wld
 | .e0 h w now T => ⟨h, [], w, List.replicate x0.a0.toNat [PV.list 147 []], now, 0, x2, 0, T⟩
 | .e1 h l w b now st tl tp T => ⟨h, l, w, b, now, st, tl, tp, T⟩
 | .e2 l h w b now st tl tp T => ⟨h, l, w, b, now, st, tl, tp, T⟩
theorem zz7 (s : f13L19s) (h1 : (stOf x0 x2 s).1 = (x1.length : Int)) : ∃ z, jl N x0 x1 x2 s = some (.inr z) ∧ YyR x0 x2 z = (stOf x0 x2 s).2 := by
 cases s with
 | s0 => exact ⟨_, bifF (decide_eq_false (by simp only [stOf] at h1; omega)) rfl, rfl⟩
 | s1 => exact ⟨_, bifF (decide_eq_false (by simp only [stOf] at h1; omega)) rfl, rfl⟩
 | s2 => exact ⟨_, bifF (decide_eq_false (by simp only [stOf] at h1; omega)) rfl, rfl⟩
noncomputable def runW (c : S23) : Wld → List (List PV) → Wld
 | w, [] => w
 | w, e :: l => runW c (qt c w e) l
noncomputable def zl (c : S23) : Wld → List (List PV) → Bool
 | _, [] => true
 | w, e :: l => okW c w e && zl c (qt c w e) l
theorem zzY : ∀ (m : Nat) (i : Nat) (s : f13L19s), i + m = x1.length → x1.length ≤ 1000000 → (stOf x0 x2 s).1 = (i : Int) → 100 ≤ N → zl x0 (stOf x0 x2 s).2 (x1.drop i) = true → ∀ n, ∃ z, Jv (jl N x0 x1 x2) (m + 1 + n) s = some z ∧ YyR x0 x2 z = runW x0 (stOf x0 x2 s).2 (x1.drop i)
 | 0, i, s, hi, hl, hs, hN, ok, n => by
   obtain ⟨z, z1, z2⟩ := zz7 (N := N) (x0 := x0) (x1 := x1) (x2 := x2) s (by omega)
   refine ⟨z, ?_, ?_⟩
   · rw [show 0 + 1 + n = n + 1 by omega]
     exact Qu z1
   · rw [z2, List.drop_eq_nil_of_le (by omega)]
     rfl
 | m + 1, i, s, hi, hl, hs, hN, ok, n => by
   have hi2 : i < x1.length := by omega
   have hd : x1.drop i = x1.getD i [] :: x1.drop (i + 1) := by
    rw [List.drop_eq_getElem_cons hi2, List.getD_eq_getElem?_getD, List.getElem?_eq_getElem hi2, Option.getD_some]
   rw [hd] at ok ⊢
   simp only [zl, Bool.and_eq_true] at ok
   have e : (stOf x0 x2 s).1.toNat = i := by omega
   obtain ⟨s', h1, h2⟩ := Jz6 (N := N) (x0 := x0) (x1 := x1) (x2 := x2) s (by omega) (by omega) hN (by rw [e]; exact ok.1)
   rw [e, hs, Qr (by omega)] at h2
   rw [show m + 1 + 1 + n = (m + 1 + n) + 1 by omega, Yw h1]
   have h3 : (stOf x0 x2 s').2 = qt x0 (stOf x0 x2 s).2 (x1.getD i []) := by rw [h2]
   obtain ⟨z, z1, z2⟩ := zzY m (i + 1) s' (by omega) hl (by rw [h2]) hN (by rw [h3]; exact ok.2) n
   refine ⟨z, z1, ?_⟩
   rw [z2, h3]
   rfl
end
set_option maxRecDepth 10000
theorem zzP (o : S29) (x lo hi : Int) : (f49 0 o x lo hi).isSome = true := Tr.whole_some (by kernel_rfl)
theorem Zzz (w : Wld) (t : Int) : Yp w t = ((yX w.T t).a0 != 0) := rfl
theorem qF {w : Wld} {t : Int} (h0 : 0 ≤ t) (h1 : t < (w.T.length : Int)) : inT w t = true := Bool.and_eq_true_iff.2 ⟨decide_eq_true h0, decide_eq_true h1⟩
section
variable {c : S23} {w : Wld} {e : List PV}
theorem ze (k : eK e = 2) (b : Yp w (eT e) = false) : qt c w e = w := by
 unfold qt
 rw [k, b]; rfl
theorem Yzz (k : eK e = 2) (t : inT w (eT e) = true) (b : Yp w (eT e) = false) : okW c w e = true := by
 unfold okW
 rw [k, b, t]; rfl
theorem j3 {y : S131} (k : eK e = 2) (b : Yp w (eT e) = true) (hs : f79 0 (Qn c w (eT e)) = some y) :
 qt c w e = Zzi w (eT e) y (bif y.a36 then w.hist ++ [evtR c w (eT e) y] else w.hist) (w.log ++ y.a35.map (jzi (yF w))) := by
 have hy : qp c w (eT e) = y := by show (f79 0 _).getD _ = _; rw [hs]; rfl
 unfold qt
 rw [hy, k, b]; rfl
theorem yz7 {y : S131} (k : eK e = 2) (t : inT w (eT e) = true) (b : Yp w (eT e) = true) (hs : f79 0 (Qn c w (eT e)) = some y) (hl : y.a35.length ≤ 50) (h1 : w.log.length + y.a35.length ≤ most) (h2 : w.hist.length + 1 ≤ most) : okW c w e = true := by
 have hy : qp c w (eT e) = y := by show (f79 0 _).getD _ = _; rw [hs]; rfl
 unfold okW
 rw [hy, k, b, t, hs, decide_eq_true hl, decide_eq_true h1, decide_eq_true h2, zzP]
 simp
theorem Qzz {T : List (List PV)} {t : Int} {x : S91} (h0 : 0 ≤ t) (h1 : t < (T.length : Int)) : yX (T.set t.toNat (thrL x)) t = x := by
 have e1 : (T.set t.toNat (thrL x)).getD t.toNat [] = thrL x := by
  rw [List.getD_eq_getElem?_getD, List.getElem?_set_self (by omega), Option.getD_some]
 show S91r (PV.agg ((T.set t.toNat (thrL x)).getD t.toNat [])) = x
 rw [e1]
 rfl
theorem qZ {T : List (List PV)} {t u : Int} {x : List PV} (h0 : 0 ≤ t) (hu : 0 ≤ u) (hn : u ≠ t) : yX (T.set t.toNat x) u = yX T u := by
 have e1 : (T.set t.toNat x).getD u.toNat [] = T.getD u.toNat [] := by
  rw [List.getD_eq_getElem?_getD, List.getElem?_set_ne (by omega), List.getD_eq_getElem?_getD]
 show S91r (PV.agg _) = S91r (PV.agg _)
 rw [e1]
theorem qz7 {t : Int} {y : S131} {H L : List (List PV)} (h0 : 0 ≤ t) (h1 : t < (w.T.length : Int)) (hk : qyR (Qn c w t) y) (hl : y.a35 = []) (hd : y.a36 = false) : Qn c (Zzi w t y H L) t = y := by
 obtain ⟨k1, k2, k3⟩ := hk
 have k1 : cfg y = c := k1
 have k2 : y.a12 = t := k2
 have k3 : y.a13 = w.now := k3
 show JzZ c t w.now y.a14 y.a15 (yX (w.T.set t.toNat (thrL (QzZ y))) t) y.a33 y.a34 = y
 rw [Qzz h0 h1, ← k1, ← k2, ← k3]
 cases y
 simp only at hl hd
 subst hl hd
 rfl
theorem yzY (k2 : eK e = 2) (h0 : 0 ≤ eT e) (hm : e.length = e.length) : ∀ (k : Nat) (w : Wld) (y : S131), eT e < (w.T.length : Int) → w.hist.length + 1 ≤ most → w.log.length ≤ most → Goes k (Qn c w (eT e)) y →
 ∃ w', Qn c w' (eT e) = y ∧ w'.hist = w.hist ∧ w'.log = w.log ∧ w'.now = w.now ∧ w'.T.length = w.T.length ∧ (∀ u, 0 ≤ u → u ≠ eT e → yX w'.T u = yX w.T u) ∧ ∀ rest, runW c w (List.replicate k e ++ rest) = runW c w' rest ∧ zl c w (List.replicate k e ++ rest) = zl c w' rest
 | 0, w, y, _, _, _, hg => ⟨w, hg, rfl, rfl, rfl, rfl, fun _ _ _ => rfl, fun _ => ⟨rfl, rfl⟩⟩
 | k + 1, w, y, h1, b1, b2, hg => by
   obtain ⟨u, g1, g2, g3, g4, g5, g6⟩ := hg
   have hb : Yp w (eT e) = true := by rw [Zzz]; simpa using g1
   have hr : qt c w e = Zzi w (eT e) u w.hist w.log := by
    rw [j3 k2 hb g2, g3, g4, List.map_nil, List.append_nil]; rfl
   have ho : okW c w e = true := yz7 k2 (qF h0 h1) hb g2 (by rw [g4]; decide) (by rw [g4]; exact b2) b1
   have hn := qz7 (H := w.hist) (L := w.log) h0 h1 g5 g4 g3
   obtain ⟨w', q1, q2, q3, q4, q5, q6, q7⟩ := yzY k2 h0 hm k (Zzi w (eT e) u w.hist w.log) y (by show eT e < ((w.T.set _ _).length : Int); rw [List.length_set]; exact h1) b1 b2 (by rw [hn]; exact g6)
   refine ⟨w', q1, q2, q3, q4, ?_, ?_, fun rest => ?_⟩
   · rw [q5]; show (w.T.set _ _).length = _; rw [List.length_set]
   · intro v v0 vn
     rw [q6 v v0 vn]
     exact qZ h0 v0 vn
   · have := q7 rest
     rw [List.replicate_succ, List.cons_append]
     refine ⟨?_, ?_⟩
     · show runW c (qt c w e) _ = _
       rw [hr]; exact this.1
     · show (okW c w e && zl c (qt c w e) _) = _
       rw [hr, ho]; exact this.2
theorem qzY (k2 : eK e = 2) (h0 : 0 ≤ eT e) (h1 : eT e < (w.T.length : Int)) (hb : Yp w (eT e) = false) : ∀ (k : Nat) rest, runW c w (List.replicate k e ++ rest) = runW c w rest ∧ zl c w (List.replicate k e ++ rest) = zl c w rest
 | 0, rest => ⟨rfl, rfl⟩
 | k + 1, rest => by
   have ih := qzY k2 h0 h1 hb k rest
   rw [List.replicate_succ, List.cons_append]
   refine ⟨?_, ?_⟩
   · show runW c (qt c w e) _ = _
     rw [ze k2 hb]; exact ih.1
   · show (okW c w e && zl c (qt c w e) _) = _
     rw [ze k2 hb, Yzz k2 (qF h0 h1) hb]; exact ih.2
end
structure Still (c : S23) (w : Wld) : Prop where
 words : (w.words.length : Int) = yh c
 quiet : Quiet c w.words
 boxes : (w.boxes.length : Int) = c.a0
 now : w.now = 0
 tl : w.tl.length ≤ 1000
 p0 : 0 ≤ w.tp
 p1 : w.tp ≤ (w.tl.length : Int)
 thrs : (w.T.length : Int) = c.a0
 idle : ∀ t, 0 ≤ t → t < c.a0 → (yX w.T t).a0 = 0
 wid : ∀ t, 0 ≤ t → t < c.a0 → (yX w.T t).a12 = 1
noncomputable def jym (o : S29) (p lo hi : Int) : Bool := ((f49 0 o p lo hi).getD f49d).y2
noncomputable def Zym (t : Int) (o : S29) (p lo hi : Int) : Int := zH [[PV.int .i64 t, PV.int .i64 o.a0, PV.int .i64 o.a1]] p lo hi
theorem jz7 {c : S23} {w : Wld} (m : May c) (h : Still c w) {ei ep : List PV} (k1 : eK ei = 1) (k2 : eK ep = 2) (kt : eT ep = eT ei) (t0 : 0 ≤ eT ei) (t1 : eT ei < c.a0) (i0 : 0 ≤ eI ei) (i1 : eI ei < c.a1)
 {K : Nat} (hK : 20 + 8 * c.a3 + c.a4 * (20 + 2 * c.a6) ≤ (K : Int)) (b1 : w.hist.length + 2 ≤ most) (b2 : w.log.length + 1 ≤ most) :
 ∃ w', Still c w' ∧ (∀ rest, runW c w (ei :: (List.replicate K ep ++ rest)) = runW c w' rest ∧ zl c w (ei :: (List.replicate K ep ++ rest)) = zl c w' rest) ∧
  (∃ s1 s2, w'.hist = w.hist ++ [evt 1 (eT ei) (eI ei) (eO ei).a0 (eO ei).a1 0 false s1, evt 2 (eT ei) (eI ei) (eO ei).a0 (eO ei).a1 (wAt w.words (Zv c (eI ei))) (jym (eO ei) (wAt w.words (Zv c (eI ei))) c.a9 c.a10) s2]) ∧
  w'.log.length = w.log.length + 1 ∧ wAt w'.words (Zv c (eI ei)) = Zym (eT ei) (eO ei) (wAt w.words (Zv c (eI ei))) c.a9 c.a10 ∧ ∀ j, 0 ≤ j → j < c.a1 → j ≠ eI ei → wAt w'.words (Zv c j) = wAt w.words (Zv c j) := by
 have hT := h.thrs
 have hl1 : eT ei < (w.T.length : Int) := by omega
 obtain ⟨node, u, f1, f2⟩ := Qz6 m t0 t1 (yX w.T (eT ei)) (eI ei) (eO ei) w.now
 rw [h.wid _ t0 t1] at f1
 have hidle : Yp w (eT ei) = false := by rw [Zzz, h.idle _ t0 t1]; rfl
 have hbeg : zR c w ei = some (qzi (eT ei) (eI ei) (eO ei).a0 (eO ei).a1 1 node u) := f1
 have hok1 : okW c w ei = true := by
  unfold okW
  rw [k1, hidle, hbeg, qF t0 hl1, decide_eq_true (show w.hist.length + 1 ≤ most by omega)]; rfl
 have hr1 : qt c w ei = { w with hist := w.hist ++ [evtI w ei 1], T := w.T.set (eT ei).toNat (thrL (qzi (eT ei) (eI ei) (eO ei).a0 (eO ei).a1 1 node u)) } := by
  unfold qt
  rw [k1, hidle, hbeg]; rfl
 generalize hw1 : ({ w with hist := w.hist ++ [evtI w ei 1], T := w.T.set (eT ei).toNat (thrL (qzi (eT ei) (eI ei) (eO ei).a0 (eO ei).a1 1 node u)) } : Wld) = w1 at hr1
 have w1T : w1.T = w.T.set (eT ei).toNat (thrL (qzi (eT ei) (eI ei) (eO ei).a0 (eO ei).a1 1 node u)) := by rw [← hw1]
 have w1h : w1.hist = w.hist ++ [evtI w ei 1] := by rw [← hw1]
 have w1l : w1.log = w.log := by rw [← hw1]
 have w1n : w1.now = w.now := by rw [← hw1]
 have w1len : w1.T.length = w.T.length := by rw [w1T, List.length_set]
 have w1thr : yX w1.T (eT ei) = qzi (eT ei) (eI ei) (eO ei).a0 (eO ei).a1 1 node u := by rw [w1T]; exact Qzz t0 hl1
 have hturn : Qn c w1 (eT ei) = JzZ c (eT ei) w.now w.words w.boxes (qzi (eT ei) (eI ei) (eO ei).a0 (eO ei).a1 1 node u) w.tl w.tp := by
  show JzZ c (eT ei) w1.now w1.words w1.boxes (yX w1.T (eT ei)) w1.tl w1.tp = _
  rw [w1thr, ← hw1]
 have hcfg : cfg (Qn c w1 (eT ei)) = c := rfl
 have hst : Start (Qn c w1 (eT ei)) := by
  rw [hturn]
  exact ⟨⟨m, t0, t1, i0, i1, h.words, h.boxes, rfl, rfl⟩, rfl, h.now, rfl, rfl, rfl, rfl, f2, rfl, rfl, h.tl, h.p0, h.p1, h.quiet⟩
 obtain ⟨k, y, z, s1, s2, s3, s4, s5⟩ := solo hst
 have s1 : (k : Int) + 1 ≤ 20 + 8 * c.a3 + c.a4 * (20 + 2 * c.a6) := s1
 obtain ⟨w2, q1, q2, q3, q4, q5, q6, q7⟩ := yzY (c := c) (e := ep) k2 (by rw [kt]; exact t0) rfl k w1 y (by rw [kt, w1len]; exact hl1) (by rw [w1h, List.length_append]; show w.hist.length + 1 + 1 ≤ most; omega) (by rw [w1l]; omega) (by rw [kt]; exact s2)
 rw [kt] at q1
 have hb2 : Yp w2 (eT ep) = true := by
  rw [kt, Zzz]
  have : (Qn c w2 (eT ei)).a16 ≠ 0 := by rw [q1]; exact s3
  simpa using this
 have hf2 : f79 0 (Qn c w2 (eT ep)) = some z := by rw [kt, q1]; exact s4
 have hl2 : eT ei < (w2.T.length : Int) := by rw [q5, w1len]; exact hl1
 have hr2 : qt c w2 ep = Zzi w2 (eT ei) z (w2.hist ++ [evtR c w2 (eT ei) z]) (w2.log ++ z.a35.map (jzi (yF w2))) := by
  rw [j3 k2 hb2 hf2, s5.done, kt]; rfl
 have hok2 : okW c w2 ep = true := yz7 k2 (by rw [kt]; exact qF t0 hl2) hb2 hf2 (by rw [s5.log]; decide) (by rw [s5.log, q3, w1l]; exact b2) (by rw [q2, w1h, List.length_append]; show w.hist.length + 1 + 1 ≤ most; omega)
 generalize hw3 : Zzi w2 (eT ei) z (w2.hist ++ [evtR c w2 (eT ei) z]) (w2.log ++ z.a35.map (jzi (yF w2))) = w3 at hr2
 have w3T : w3.T = w2.T.set (eT ei).toNat (thrL (QzZ z)) := by rw [← hw3]
 have w3len : w3.T.length = w2.T.length := by rw [w3T, List.length_set]
 have w3thr : yX w3.T (eT ei) = QzZ z := by rw [w3T]; exact Qzz t0 hl2
 have hidle3 : Yp w3 (eT ep) = false := by
  rw [kt, Zzz, w3thr]
  show (z.a16 != 0) = false
  rw [s5.idle]; rfl
 have x14 : (Qn c w1 (eT ei)).a14 = w.words := by rw [hturn]
 have x17 : (Qn c w1 (eT ei)).a17 = eI ei := by rw [hturn]; rfl
 have hcell : qj (Qn c w1 (eT ei)) = wAt w.words (Zv c (eI ei)) := by
  show wAt (Qn c w1 (eT ei)).a14 (Zv c (Qn c w1 (eT ei)).a17) = _
  rw [x14, x17]
 have hnext : zT (Qn c w1 (eT ei)) = Zym (eT ei) (eO ei) (wAt w.words (Zv c (eI ei))) c.a9 c.a10 := by
  show zH (Qn c w1 (eT ei)).a20 (qj (Qn c w1 (eT ei))) c.a9 c.a10 = _
  rw [hcell, hturn]; rfl
 refine ⟨w3, ?_, ?_, ⟨w.steps, yF w2, ?_⟩, ?_, ?_, ?_⟩
 · refine ⟨?_, ?_, ?_, ?_, ?_, ?_, ?_, ?_, ?_, ?_⟩
   · rw [← hw3]; show (z.a14.length : Int) = _
     rw [s5.len, x14]; exact h.words
   · have := s5.quiet
     rw [← hw3]; exact this
   · rw [← hw3]; show (z.a15.length : Int) = _
     rw [s5.boxes, hturn]; exact h.boxes
   · rw [← hw3]; show w2.now = 0
     rw [q4, w1n]; exact h.now
   · rw [← hw3]; show z.a33.length ≤ 1000
     rw [s5.tape, hturn]; exact h.tl
   · rw [← hw3]; exact s5.p0
   · rw [← hw3]; show z.a34 ≤ (z.a33.length : Int)
     rw [s5.tape]; exact s5.p1
   · rw [w3len, q5, w1len]; exact hT
   · intro t g0 g1
     by_cases e : t = eT ei
     · rw [e, w3thr]; exact s5.idle
     · rw [w3T, qZ t0 g0 e, q6 t g0 (by rw [kt]; exact e), w1T, qZ t0 g0 e]; exact h.idle t g0 g1
   · intro t g0 g1
     by_cases e : t = eT ei
     · rw [e, w3thr]; exact s5.wid
     · rw [w3T, qZ t0 g0 e, q6 t g0 (by rw [kt]; exact e), w1T, qZ t0 g0 e]; exact h.wid t g0 g1
 · intro rest
   have eK' : List.replicate K ep ++ rest = List.replicate k ep ++ (ep :: (List.replicate (K - k - 1) ep ++ rest)) := by
    rw [show ep :: (List.replicate (K - k - 1) ep ++ rest) = List.replicate (K - k - 1 + 1) ep ++ rest by rw [List.replicate_succ, List.cons_append], ← List.append_assoc, List.replicate_append_replicate, show k + (K - k - 1 + 1) = K by omega]
   have r7 := q7 (ep :: (List.replicate (K - k - 1) ep ++ rest))
   have r8 := qzY (c := c) (w := w3) (e := ep) k2 (by rw [kt]; exact t0) (by rw [kt, w3len]; exact hl2) hidle3 (K - k - 1) rest
   refine ⟨?_, ?_⟩
   · show runW c (qt c w ei) _ = _
     rw [hr1, eK', r7.1]
     show runW c (qt c w2 ep) _ = _
     rw [hr2, r8.1]
   · show (okW c w ei && zl c (qt c w ei) _) = _
     rw [hr1, hok1, Bool.true_and, eK', r7.2]
     show (okW c w2 ep && zl c (qt c w2 ep) _) = _
     rw [hr2, hok2, Bool.true_and, r8.2]
 · rw [← hw3]
   show w2.hist ++ [evt 2 (eT ei) z.a17 z.a18 z.a19 z.a30 (ZyR c z) (yF w2)] = _
   have z17 : z.a17 = eI ei := by rw [s5.item]; exact x17
   have z18 : z.a18 = (eO ei).a0 := by rw [s5.tag, hturn]; rfl
   have z19 : z.a19 = (eO ei).a1 := by rw [s5.v, hturn]; rfl
   have z30 : z.a30 = wAt w.words (Zv c (eI ei)) := by rw [s5.prior]; exact hcell
   have zt : ZyR c z = jym (eO ei) (wAt w.words (Zv c (eI ei))) c.a9 c.a10 := by
    show ((f49 0 ⟨z.a18, z.a19⟩ z.a30 c.a9 c.a10).getD f49d).y2 = _
    rw [z18, z19, z30]; rfl
   rw [q2, w1h, z17, z18, z19, z30, zt, List.append_assoc]; rfl
 · rw [← hw3]; show (w2.log ++ z.a35.map _).length = _
   rw [List.length_append, List.length_map, s5.log, q3, w1l]
 · rw [← hw3]
   have := s5.cell
   rw [hnext, x17] at this
   exact this
 · intro j j0 j1 jn
   rw [← hw3]
   have := s5.cells j j0 j1 (by rw [x17]; exact jn)
   rw [x14] at this
   exact this
set_option maxRecDepth 10000
theorem peel {b : Bool} {n : Int} {t : Tr f17o} (hn : n ≠ 0) (h : (((Tr.test b (.ret ⟨n⟩) t).run).getD f17d).y1 = 0) : b = false ∧ ((t.run).getD f17d).y1 = 0 := by
 cases b with
 | false => exact ⟨rfl, h⟩
 | true => exact absurd h hn
theorem YyI {x : S23} (h : ((f17 0 ⟨x.a0, x.a1, x.a2, x.a3, x.a4, x.a5, x.a6, x.a7, x.a8, x.a9, x.a10, x.a11⟩).getD f17d).y1 = 0) : May x ∧ (x.a8 = true → x.a9 ≤ x.a11 ∧ x.a11 ≤ x.a10) := by
 unfold f17 JyN at h
 simp only at h
 obtain ⟨g0, h⟩ := peel (by decide) h
 obtain ⟨g1, h⟩ := peel (by decide) h
 obtain ⟨g2, h⟩ := peel (by decide) h
 obtain ⟨g3, h⟩ := peel (by decide) h
 obtain ⟨g4, h⟩ := peel (by decide) h
 obtain ⟨g5, h⟩ := peel (by decide) h
 obtain ⟨g6, h⟩ := peel (by decide) h
 obtain ⟨g7, h⟩ := peel (by decide) h
 obtain ⟨g8, h⟩ := peel (by decide) h
 obtain ⟨g9, h⟩ := peel (by decide) h
 obtain ⟨g10, h⟩ := peel (by decide) h
 obtain ⟨g11, h⟩ := peel (by decide) h
 obtain ⟨g12, h⟩ := peel (by decide) h
 obtain ⟨g13, h⟩ := peel (by decide) h
 obtain ⟨g14, h⟩ := peel (by decide) h
 obtain ⟨g15, h⟩ := peel (by decide) h
 simp only [decide_eq_false_iff_not] at g0 g1 g2 g3 g4 g5 g6 g7 g8 g9 g10 g11 g12 g13 g14 g15
 refine ⟨⟨by omega, by omega, by omega, by omega, by omega, by omega, by omega, by omega⟩, fun hb => ?_⟩
 rw [hb] at h
 obtain ⟨g16, h⟩ := peel (by decide) (show (((Tr.test (decide (x.a9 > x.a11)) (.ret ⟨58⟩) _).run).getD f17d).y1 = 0 from h)
 obtain ⟨g17, h⟩ := peel (by decide) h
 simp only [decide_eq_false_iff_not] at g16 g17
 omega
theorem qzq {x : S23} (m : May x) (h : x.a8 = true → x.a9 ≤ x.a11 ∧ x.a11 ≤ x.a10) : chk5 x = 0 := by
 obtain ⟨h0, h1, h2, h3, h4, h5, h6, h7⟩ := m
 unfold chk5 config_Check.v
 rw [if_neg (by omega), if_neg (by omega), if_neg (by omega), if_neg (by omega), if_neg (by omega), if_neg (by omega), if_neg (by omega), if_neg (by omega), if_neg]
 rintro ⟨g1, g2⟩
 have := h g1
 omega
noncomputable def jZ (c : S23) : List (List PV) := (List.range' 0 c.a1.toNat).foldl (setA c) (List.replicate (Jc c).toNat [PV.int .i64 0])
def thr0 : List PV := [PV.int .i64 0, PV.int .i64 0, PV.int .i64 0, PV.int .i64 0, PV.list 147 [], PV.list 186 [], PV.list 3 [], PV.int .i64 0, PV.int .i64 0, PV.int .i64 0, PV.int .i64 0, PV.int .i64 0, PV.int .i64 1, PV.int .i64 0, PV.int .i64 0, PV.int .i64 0, PV.int .i64 0]
noncomputable def wld0 (c : S23) (d : List (List PV)) : Wld := ⟨[], [], jZ c, List.replicate c.a0.toNat [PV.list 147 []], 0, 0, d, 0, YH [thr0] c.a0⟩
theorem Z3 {c : S23} (m : May c) : Jc c = yh c := by unfold Jc; rw [jza m]; rfl
theorem QyI {c : S23} (m : May c) {i : Int} (h0 : 0 ≤ i) (h1 : i < c.a1) : posA c i = Zv c i := by unfold posA; rw [yM m h0 h1]; rfl
theorem Jzz {c : S23} (m : May c) : qa c = true := by
 have hs := jz4 m
 have hb := qn m
 have hm := Jf (i := c.a1) (by have := m.it; omega) hb.2
 have h0 := m.th; have h1 := m.it
 have hs0 : 1 ≤ yh c := by unfold yh; omega
 unfold qa
 rw [Z3 m, jza m, decide_eq_true hs0, decide_eq_true (show yh c ≤ 10000 by omega), decide_eq_true h0.1, decide_eq_true (show c.a0 ≤ 10000 by omega), decide_eq_true (show 0 ≤ c.a1 by omega), decide_eq_true (show c.a1 ≤ 10000 by omega)]
 have : (List.range' 0 c.a1.toNat).all (ZzR c) = true := by
  rw [List.all_eq_true]
  intro i hi
  rw [List.mem_range'_1] at hi
  have hc := Zd m (i := (i : Int)) (by omega) (by omega)
  unfold ZzR
  rw [QyI m (by omega) (by omega), yM m (by omega) (by omega), Z3 m, decide_eq_true hc.1, decide_eq_true hc.2]
  rfl
 rw [this]
 rfl
theorem JY {c : S23} (m : May c) : ∀ (k i : Nat) (l : List (List PV)), (i + k : Int) ≤ c.a1 → (l.length : Int) = yh c → ((List.range' i k).foldl (setA c) l).length = l.length ∧
 (∀ j, (i : Int) ≤ j → j < i + k → wAt ((List.range' i k).foldl (setA c) l) (Zv c j) = c.a11) ∧ ∀ p, 0 ≤ p → (∀ j, (i : Int) ≤ j → j < i + k → p ≠ Zv c j) → wAt ((List.range' i k).foldl (setA c) l) p = wAt l p
 | 0, i, l, h, hl => ⟨rfl, fun j h1 h2 => by omega, fun p _ _ => rfl⟩
 | k + 1, i, l, h, hl => by
   have e : setA c l i = wSet l (Zv c i) c.a11 := by
    unfold setA wSet
    rw [QyI m (by omega) (by omega)]
   have hc := Zd m (i := (i : Int)) (by omega) (by omega)
   have hlen : (wSet l (Zv c i) c.a11).length = l.length := yi _ _ _
   obtain ⟨q1, q2, q3⟩ := JY m k (i + 1) (wSet l (Zv c i) c.a11) (by omega) (by rw [hlen]; exact hl)
   rw [List.range'_succ, List.foldl_cons, e]
   refine ⟨q1.trans hlen, fun j j0 j1 => ?_, fun p p0 hp => ?_⟩
   · by_cases g : j = (i : Int)
     · subst g
       rw [q3 _ hc.1 (fun v v0 v1 => fun ev => by have := Yza m (by omega) (by omega) (by omega) (by omega) ev; omega)]
       exact Qd _ hc.1 (by omega)
     · exact q2 j (by omega) (by omega)
   · rw [q3 p p0 (fun v v0 v1 => hp v (by omega) (by omega))]
     exact yp _ hc.1 p0 (fun ev => hp i (by omega) (by omega) ev.symm)
theorem Yym (n : Nat) (p : Int) : wAt (List.replicate n [PV.int .i64 0]) p = 0 := by
 unfold wAt
 rw [List.getD_eq_getElem?_getD]
 by_cases h : p.toNat < n
 · rw [List.getElem?_eq_getElem (by simpa using h)]; simp [pInt]
 · rw [List.getElem?_eq_none (by simpa using h)]; rfl
theorem jF {c : S23} (m : May c) : ((jZ c).length : Int) = yh c := by
 have hs0 : 0 ≤ yh c := by have := qn m; have := Jf (i := c.a1) (by have := m.it; omega) this.2; have := m.th; unfold yh; omega
 have h1 := m.it
 have h := (JY m c.a1.toNat 0 (List.replicate (Jc c).toNat [PV.int .i64 0]) (by omega) (by rw [List.length_replicate, Z3 m]; omega)).1
 unfold jZ
 rw [h, List.length_replicate, Z3 m]
 omega
theorem Y3 {c : S23} (m : May c) {i : Int} (h0 : 0 ≤ i) (h1 : i < c.a1) : wAt (jZ c) (Zv c i) = c.a11 := by
 have hs0 : 0 ≤ yh c := by have := jF m; omega
 exact (JY m c.a1.toNat 0 (List.replicate (Jc c).toNat [PV.int .i64 0]) (by omega) (by rw [List.length_replicate, Z3 m]; omega)).2.1 i (by omega) (by omega)
theorem ZF {c : S23} (m : May c) {p : Int} (p0 : 0 ≤ p) (hp : ∀ j, 0 ≤ j → j < c.a1 → p ≠ Zv c j) : wAt (jZ c) p = 0 := by
 have hs0 : 0 ≤ yh c := by have := jF m; omega
 have h1 := m.it
 have h := (JY m c.a1.toNat 0 (List.replicate (Jc c).toNat [PV.int .i64 0]) (by omega) (by rw [List.length_replicate, Z3 m]; omega)).2.2 p p0 (fun j j0 j1 => hp j (by omega) (by omega))
 rw [Yym] at h
 exact h
theorem JyI {c : S23} (m : May c) : Quiet c (jZ c) :=
 ⟨fun i n i0 i1 n0 n1 => ZF m (Yd m i0 i1 n0 n1).1 (fun j j0 j1 e => YG m j0 j1 i0 i1 n0 n1 e.symm),
  fun t t0 t1 => ZF m (Zg m t0 t1).1 (fun j j0 j1 e => by have := ZG m j0 j1 t0; omega)⟩
theorem Jyd {c : S23} (m : May c) {d : List (List PV)} (hd : d.length ≤ 1000) : Still c (wld0 c d) := by
 have h0 := m.th
 have ht : ∀ t, 0 ≤ t → t < c.a0 → (YH [thr0] c.a0).getD t.toNat [] = thr0 := fun t t0 t1 => by
  show (List.replicate c.a0.toNat thr0).getD t.toNat [] = thr0
  rw [List.getD_eq_getElem?_getD, List.getElem?_eq_getElem (by rw [List.length_replicate]; omega), Option.getD_some, List.getElem_replicate]
 refine ⟨jF m, JyI m, ?_, rfl, hd, Int.le_refl 0, Int.natCast_nonneg _, ?_, fun t t0 t1 => ?_, fun t t0 t1 => ?_⟩
 · show ((List.replicate c.a0.toNat [PV.list 147 []]).length : Int) = c.a0
   rw [List.length_replicate]; omega
 · show ((List.replicate c.a0.toNat thr0).length : Int) = c.a0
   rw [List.length_replicate]; omega
 · show (S91r (PV.agg ((YH [thr0] c.a0).getD t.toNat []))).a0 = 0
   rw [ht t t0 t1]; rfl
 · show (S91r (PV.agg ((YH [thr0] c.a0).getD t.toNat []))).a12 = 1
   rw [ht t t0 t1]; rfl
@[reducible] def outW (c : S23) (w : Wld) : f13o := ⟨c.a0, c.a1, c.a2, c.a3, c.a4, c.a5, c.a6, c.a7, c.a8, c.a9, c.a10, c.a11, w.words, w.boxes, w.T, w.now, w.steps, w.tl, w.tp, w.log, w.hist, 0, 0⟩
theorem YF {c : S23} {l d : List (List PV)} (h1 : (allE c l).2 = 0) (h2 : chk5 c = 0) (h3 : qa c = true) (h4 : Zzk [thr0] c.a0 = true) (h5 : d.length ≤ most) (h6 : l.length ≤ 1000000) (ok : zl c (wld0 c d) l = true) :
 Jm c l d = some (outW c (runW c (wld0 c d) l)) := by
 have hs : stOf c d (.s0 0 [] (jZ c) 0 (YH [thr0] c.a0)) = (0, wld0 c d) := rfl
 obtain ⟨z, z1, z2⟩ := zzY (N := l.length + 100) (x0 := c) (x1 := l) (x2 := d) l.length 0 (.s0 0 [] (jZ c) 0 (YH [thr0] c.a0)) (by omega) h6 rfl (by omega) (by rw [hs]; exact ok) 99
 rw [hs] at z2
 have z2 : YyR c d z = runW c (wld0 c d) l := z2
 have z1 : Jv (jl (l.length + 100) c l d) (l.length + 100) (.s0 0 [] (jZ c) 0 (YH [thr0] c.a0)) = some z := z1
 rw [← z2]
 refine bifT (decide_eq_true h6) (bifF (by rw [h1]; rfl) (bifF (by rw [h2]; rfl) (bifT h3 (bifT h4 (bifT (decide_eq_true h5) (jzz z1 ?_))))))
 cases z <;> rfl
set_option maxRecDepth 10000
structure Job where
 (t i : Int) (o : S29)
@[reducible] def invE (j : Job) : List PV := [PV.int .i64 1, PV.int .i64 j.t, PV.int .i64 j.i, PV.int .i64 j.o.a0, PV.int .i64 j.o.a1]
@[reducible] def Js (t : Int) : List PV := [PV.int .i64 2, PV.int .i64 t, PV.int .i64 0, PV.int .i64 0, PV.int .i64 0]
def jobE (K : Nat) (j : Job) : List (List PV) := invE j :: List.replicate K (Js j.t)
def Jq (K : Nat) : List Job → List (List PV)
 | [] => []
 | j :: js => jobE K j ++ Jq K js
def zyH (x y : List PV) : Prop := ∃ k t i tag v pr d s s', x = evt k t i tag v pr d s ∧ y = evt k t i tag v pr d s'
def yT : List (List PV) → List (List PV) → Prop
 | [], [] => True
 | x :: l, y :: r => zyH x y ∧ yT l r
 | _, _ => False
theorem jzq : ∀ {l r l' r' : List (List PV)}, yT l r → yT l' r' → yT (l ++ l') (r ++ r')
 | [], [], _, _, _, h => h
 | _ :: _, _ :: _, _, _, ⟨h1, h2⟩, h => ⟨h1, jzq h2 h⟩
 | [], _ :: _, _, _, h, _ => h.elim
 | _ :: _, [], _, _, h, _ => h.elim
theorem qk : ∀ {l r : List (List PV)}, yT l r → r.length = l.length
 | [], [], _ => rfl
 | _ :: _, _ :: _, ⟨_, h⟩ => congrArg (· + 1) (qk h)
 | [], _ :: _, h => h.elim
 | _ :: _, [], h => h.elim
theorem zzy : ∀ {l r : List (List PV)} (i : Nat), yT l r → i < l.length → zyH (l.getD i []) (r.getD i [])
 | _ :: _, _ :: _, 0, ⟨h, _⟩, _ => h
 | _ :: _, _ :: _, i + 1, ⟨_, h⟩, hi => zzy i h (Nat.lt_of_succ_lt_succ hi)
 | [], [], _, _, hi => absurd hi (Nat.not_lt_zero _)
 | [], _ :: _, _, h, _ => h.elim
 | _ :: _, [], _, h, _ => h.elim
structure Kin (c c' : S23) : Prop where
 e0 : c'.a0 = c.a0
 e1 : c'.a1 = c.a1
 e9 : c'.a9 = c.a9
 e10 : c'.a10 = c.a10
 e11 : c'.a11 = c.a11
theorem jzY {c c' : S23} (m : May c) (m' : May c') (q : Kin c c') {K : Nat} (hK : 20 + 8 * c.a3 + c.a4 * (20 + 2 * c.a6) ≤ (K : Int)) (hK' : 20 + 8 * c'.a3 + c'.a4 * (20 + 2 * c'.a6) ≤ (K : Int)) :
 ∀ (js : List Job) (w w' : Wld), Still c w → Still c' w' → (∀ j, 0 ≤ j → j < c.a1 → wAt w'.words (Zv c' j) = wAt w.words (Zv c j)) → yT w.hist w'.hist → w'.log.length = w.log.length →
  w.hist.length + 2 * js.length ≤ most → w.log.length + js.length ≤ most → (∀ j ∈ js, 0 ≤ j.t ∧ j.t < c.a0 ∧ 0 ≤ j.i ∧ j.i < c.a1) →
  zl c w (Jq K js) = true ∧ zl c' w' (Jq K js) = true ∧ yT (runW c w (Jq K js)).hist (runW c' w' (Jq K js)).hist ∧ (runW c w (Jq K js)).hist.length = w.hist.length + 2 * js.length
 | [], w, w', _, _, _, ha, _, _, _, _ => ⟨rfl, rfl, ha, rfl⟩
 | j :: js, w, w', h, h', hc, ha, hl, b1, b2, hj => by
   obtain ⟨t0, t1, i0, i1⟩ := hj j (List.mem_cons_self ..)
   have b1 : w.hist.length + 2 * (js.length + 1) ≤ most := b1
   have b2 : w.log.length + (js.length + 1) ≤ most := b2
   have hal := qk ha
   obtain ⟨v, s1, s2, ⟨p1, p2, s3⟩, s4, s5, s6⟩ := jz7 m h (ei := invE j) (ep := Js j.t) rfl rfl rfl t0 t1 i0 i1 hK (by omega) (by omega)
   obtain ⟨v', r1, r2, ⟨p1', p2', r3⟩, r4, r5, r6⟩ := jz7 m' h' (ei := invE j) (ep := Js j.t) rfl rfl rfl t0 (by rw [q.e0]; exact t1) i0 (by rw [q.e1]; exact i1) hK' (by omega) (by omega)
   have hci := hc j.i i0 i1
   have s2' := s2 (Jq K js)
   have r2' := r2 (Jq K js)
   have hv : yT v.hist v'.hist := by
    rw [s3, r3]
    refine jzq ha ⟨⟨_, _, _, _, _, _, _, _, _, rfl, rfl⟩, ⟨2, j.t, j.i, j.o.a0, j.o.a1, wAt w.words (Zv c j.i), jym j.o (wAt w.words (Zv c j.i)) c.a9 c.a10, p2, p2', rfl, ?_⟩, trivial⟩
    show evt 2 j.t j.i j.o.a0 j.o.a1 (wAt w'.words (Zv c' j.i)) (jym j.o (wAt w'.words (Zv c' j.i)) c'.a9 c'.a10) p2' = _
    rw [hci, q.e9, q.e10]
   have hvl : v.hist.length = w.hist.length + 2 := by rw [s3, List.length_append]; rfl
   have hcs : ∀ n, 0 ≤ n → n < c.a1 → wAt v'.words (Zv c' n) = wAt v.words (Zv c n) := fun n n0 n1 => by
    by_cases e : n = j.i
    · subst e
      show wAt v'.words (Zv c' (eI (invE j))) = wAt v.words (Zv c (eI (invE j)))
      rw [r5, s5, q.e9, q.e10]
      show Zym j.t j.o (wAt w'.words (Zv c' j.i)) _ _ = Zym j.t j.o (wAt w.words (Zv c j.i)) _ _
      rw [hci]
    · rw [s6 n n0 n1 e, r6 n n0 (by rw [q.e1]; exact n1) e]
      exact hc n n0 n1
   obtain ⟨g1, g2, g3, g4⟩ := jzY m m' q hK hK' js v v' s1 r1 hcs hv (by rw [s4, r4, hl]) (by rw [hvl]; omega) (by rw [s4]; omega) (fun n hn => hj n (List.mem_cons_of_mem _ hn))
   have e1 : Jq K (j :: js) = invE j :: (List.replicate K (Js j.t) ++ Jq K js) := rfl
   rw [e1, s2'.1, s2'.2, r2'.1, r2'.2]
   refine ⟨g1, g2, g3, ?_⟩
   rw [g4, hvl, List.length_cons]; omega
theorem QF (K : Nat) : ∀ js : List Job, (Jq K js).length = js.length * (K + 1)
 | [] => by simp [Jq]
 | j :: js => by
   have := QF K js
   simp only [Jq, jobE, List.length_append, List.length_cons, List.length_replicate, this, Nat.add_mul]
   omega
theorem jM (c : S23) {t : Int} (t0 : 0 ≤ t) (t1 : t < c.a0) : chkE c (Js t) = 0 := by
 show (((qzE c ⟨2, t, 0, 0, 0⟩).run).getD f40d).y1 = 0
 unfold qzE
 simp [Tr.run, t0, t1]
noncomputable def mayO (c : S23) (o : S29) : Bool := ((f27 0 ⟨o.a0, o.a1⟩ c.a8).getD f27d).y1
theorem yzy (c : S23) {j : Job} (t0 : 0 ≤ j.t) (t1 : j.t < c.a0) (i0 : 0 ≤ j.i) (i1 : j.i < c.a1) (hm : mayO c j.o = true) : chkE c (invE j) = 0 := by
 have hm : (((JyY ⟨j.o.a0, j.o.a1⟩ c.a8).run).getD f27d).y1 = true := hm
 show (((qzE c ⟨1, j.t, j.i, j.o.a0, j.o.a1⟩).run).getD f40d).y1 = 0
 unfold JyY at hm
 unfold qzE
 cases hb : c.a8 with
 | false =>
   rw [hb] at hm
   simp [Tr.run] at hm
   by_cases g : 1 ≤ j.o.a0
   · simp [g] at hm
     simp [Tr.run, t0, t1, i0, i1, hb, g, show j.o.a0 ≤ 9 by omega, show j.o.a0 < 8 by omega]
   · simp [g] at hm
 | true =>
   rw [hb] at hm
   simp [Tr.run] at hm
   by_cases g : j.o.a0 = 8
   · simp [Tr.run, t0, t1, i0, i1, hb, g]
   · by_cases g' : j.o.a0 = 9
     · simp [g'] at hm
       simp [Tr.run, t0, t1, i0, i1, hb, g', hm]
     · have e1 : (j.o.a0 == 8) = false := by simpa using g
       have e2 : (j.o.a0 == 9) = false := by simpa using g'
       rw [e1, e2] at hm
       cases hm
theorem ZzY {p : Nat → Int} : ∀ (n i : Nat), (∀ k, i ≤ k → k < i + n → p k = 0) → Jzs p n i = (0, 0)
 | 0, _, _ => rfl
 | n + 1, i, h => by
   unfold Jzs
   rw [if_pos (h i (Nat.le_refl _) (by omega))]
   exact ZzY n (i + 1) fun k h0 h1 => h k (by omega) (by omega)
theorem Zz7 {c : S23} {l : List (List PV)} (h1 : chk5 c = 0) (h2 : l.length ≤ 65536) (h3 : ∀ e ∈ l, chkE c e = 0) : (allE c l).2 = 0 := by
 unfold allE
 rw [h1, decide_eq_false (show ¬ ((l.length : Int) > 65536) by omega)]
 show (Jzs _ l.length 0).2 = 0
 rw [ZzY]
 intro k _ hk
 refine h3 _ ?_
 rw [List.getD_eq_getElem?_getD, List.getElem?_eq_getElem (by omega), Option.getD_some]
 exact List.getElem_mem _
theorem qzy (c : S23) (K : Nat) : ∀ js : List Job, (∀ j ∈ js, 0 ≤ j.t ∧ j.t < c.a0 ∧ 0 ≤ j.i ∧ j.i < c.a1 ∧ mayO c j.o = true) → ∀ e ∈ Jq K js, chkE c e = 0
 | [], _, e, he => absurd he (List.not_mem_nil)
 | j :: js, h, e, he => by
   obtain ⟨t0, t1, i0, i1, hm⟩ := h j (List.mem_cons_self ..)
   rcases List.mem_append.1 (show e ∈ jobE K j ++ Jq K js from he) with he | he
   · rcases List.mem_cons.1 (show e ∈ invE j :: List.replicate K (Js j.t) from he) with rfl | he
     · exact yzy c t0 t1 i0 i1 hm
     · rw [List.eq_of_mem_replicate he]; exact jM c t0 t1
   · exact qzy c K js (fun n hn => h n (List.mem_cons_of_mem _ hn)) e he
theorem Yzi {c : S23} (m : May c) (h6 : c.a0 ≤ 6) : Zzk [thr0] c.a0 = true := by
 have := m.th
 unfold Zzk
 rw [decide_eq_true (show 1 ≤ c.a0 by omega), decide_eq_true h6]
 rfl
theorem Q3 {c c' : S23} (m : May c) (m' : May c') (k1 : chk5 c = 0) (k2 : chk5 c' = 0) (q : Kin c c') (q8 : c'.a8 = c.a8) (h6 : c.a0 ≤ 6) {K : Nat} (hK : 20 + 8 * c.a3 + c.a4 * (20 + 2 * c.a6) ≤ (K : Int)) (hK' : 20 + 8 * c'.a3 + c'.a4 * (20 + 2 * c'.a6) ≤ (K : Int)) (hK2 : K ≤ 1000)
 {d : List (List PV)} (hd : d.length ≤ 1000) {js : List Job} (hl : js.length ≤ 16) (hj : ∀ j ∈ js, 0 ≤ j.t ∧ j.t < c.a0 ∧ 0 ≤ j.i ∧ j.i < c.a1 ∧ mayO c j.o = true) :
 ∃ w w', Jm c (Jq K js) d = some (outW c w) ∧ Jm c' (Jq K js) d = some (outW c' w') ∧ yT w.hist w'.hist ∧ w.hist.length = 2 * js.length := by
 have hlen := QF K js
 have hlen2 : js.length * (K + 1) ≤ 16 * 1001 := Nat.mul_le_mul hl (by omega)
 have hj' : ∀ j ∈ js, 0 ≤ j.t ∧ j.t < c'.a0 ∧ 0 ≤ j.i ∧ j.i < c'.a1 ∧ mayO c' j.o = true := fun j h => by
  have := hj j h
  unfold mayO at *
  rw [q.e0, q.e1, q8]; exact this
 have hmost : most = 1000000 := rfl
 obtain ⟨o1, o2, o3, o4⟩ := jzY m m' q hK hK' js (wld0 c d) (wld0 c' d) (Jyd m hd) (Jyd m' hd) (fun j j0 j1 => by
  show wAt (jZ c') (Zv c' j) = wAt (jZ c) (Zv c j)
  rw [Y3 m j0 j1, Y3 m' j0 (by rw [q.e1]; exact j1), q.e11]) trivial rfl (by show 0 + _ ≤ _; omega) (by show 0 + _ ≤ _; omega) (fun j h => ⟨(hj j h).1, (hj j h).2.1, (hj j h).2.2.1, (hj j h).2.2.2.1⟩)
 refine ⟨runW c (wld0 c d) (Jq K js), runW c' (wld0 c' d) (Jq K js), ?_, ?_, o3, ?_⟩
 · exact YF (Zz7 k1 (by omega) (qzy c K js hj)) k1 (Jzz m) (Yzi m h6) (by omega) (by omega) o1
 · exact YF (Zz7 k2 (by omega) (qzy c' K js hj')) k2 (Jzz m') (Yzi m' (by rw [q.e0]; exact h6)) (by omega) (by omega) o2
 · rw [o4]; show 0 + _ = _; omega
set_option maxRecDepth 10000
def eqI : PV → PV → Bool
 | .int .i64 a, .int .i64 b => decide (a = b)
 | _, _ => false
theorem yyH : ∀ {p q : PV}, eqI p q = true → p = q
 | .int .i64 a, .int .i64 b, h => by rw [of_decide_eq_true (show decide (a = b) = true from h)]
def Yz7 : List PV → List PV → Bool
 | [], [] => true
 | a :: l, b :: r => eqI a b && Yz7 l r
 | _, _ => false
theorem YzY : ∀ {l r : List PV}, Yz7 l r = true → l = r
 | [], [], _ => rfl
 | a :: l, b :: r, h => by
   obtain ⟨h1, h2⟩ := Bool.and_eq_true_iff.1 (show (eqI a b && Yz7 l r) = true from h)
   rw [yyH h1, YzY h2]
def QzY : List (List PV) → List (List PV) → Bool
 | [], [] => true
 | a :: l, b :: r => Yz7 a b && QzY l r
 | _, _ => false
theorem Zzq : ∀ {l r : List (List PV)}, QzY l r = true → l = r
 | [], [], _ => rfl
 | a :: l, b :: r, h => by
   obtain ⟨h1, h2⟩ := Bool.and_eq_true_iff.1 (show (Yz7 a b && QzY l r) = true from h)
   rw [YzY h1, Zzq h2]
def eqC (x y : S23) : Bool := decide (x.a0 = y.a0) && (decide (x.a1 = y.a1) && (decide (x.a2 = y.a2) && (decide (x.a3 = y.a3) && (decide (x.a4 = y.a4) && (decide (x.a5 = y.a5) && (decide (x.a6 = y.a6) && (decide (x.a7 = y.a7) && ((x.a8 == y.a8) && (decide (x.a9 = y.a9) && (decide (x.a10 = y.a10) && decide (x.a11 = y.a11)))))))))))
theorem zyc {x y : S23} (h : eqC x y = true) : x = y := by
 obtain ⟨x0, x1, x2, x3, x4, x5, x6, x7, x8, x9, x10, x11⟩ := x
 obtain ⟨y0, y1, y2, y3, y4, y5, y6, y7, y8, y9, y10, y11⟩ := y
 unfold eqC at h
 simp only [Bool.and_eq_true, decide_eq_true_eq, beq_iff_eq] at h
 obtain ⟨rfl, rfl, rfl, rfl, rfl, rfl, rfl, rfl, rfl, rfl, rfl, rfl⟩ := h
 rfl
@[reducible] def cB (b : Int) : S23 := ⟨3, 1, b, 1, 1, 1, 2, 0, false, 0, 0, 5⟩
def inv3 : List (List PV) := [invE ⟨0, 0, ⟨1, 1⟩⟩, invE ⟨1, 0, ⟨1, 2⟩⟩, invE ⟨2, 0, ⟨1, 4⟩⟩]
def rnd : List (List PV) := [Js 0, Js 1, Js 2]
def zv : Nat → List (List PV)
 | 0 => []
 | n + 1 => rnd ++ zv n
theorem qR : ∀ a b, zv (a + b) = zv a ++ zv b
 | 0, b => by rw [Nat.zero_add]; rfl
 | a + 1, b => by
   rw [show a + 1 + b = (a + b) + 1 by omega]
   show rnd ++ zv (a + b) = (rnd ++ zv a) ++ zv b
   rw [qR a b, List.append_assoc]
theorem jR : ∀ n, (zv n).length = 3 * n
 | 0 => rfl
 | n + 1 => by
   show (rnd ++ zv n).length = _
   rw [List.length_append, jR n]
   show 3 + 3 * n = _
   omega
theorem Qz7 (c : S23) : ∀ (l r : List (List PV)) (w : Wld), runW c w (l ++ r) = runW c (runW c w l) r
 | [], _, _ => rfl
 | e :: l, r, w => Qz7 c l r (qt c w e)
theorem yyc (c : S23) : ∀ (l r : List (List PV)) (w : Wld), zl c w (l ++ r) = (zl c w l && zl c (runW c w l) r)
 | [], _, _ => rfl
 | e :: l, r, w => by
   show (okW c w e && zl c (qt c w e) (l ++ r)) = ((okW c w e && zl c (qt c w e) l) && _)
   rw [yyc c l r, Bool.and_assoc]; rfl
theorem JF (c : S23) (w : Wld) (hl : w.T.length = 3) (h0 : Yp w 0 = false) (h1 : Yp w 1 = false) (h2 : Yp w 2 = false) : ∀ n, runW c w (zv n) = w ∧ zl c w (zv n) = true
 | 0 => ⟨rfl, rfl⟩
 | n + 1 => by
   obtain ⟨i1, i2⟩ := JF c w hl h0 h1 h2 n
   have r0 : qt c w (Js 0) = w := ze rfl h0
   have r1 : qt c w (Js 1) = w := ze rfl h1
   have r2 : qt c w (Js 2) = w := ze rfl h2
   have o0 : okW c w (Js 0) = true := Yzz rfl (qF (by decide) (by rw [hl]; decide)) h0
   have o1 : okW c w (Js 1) = true := Yzz rfl (qF (by decide) (by rw [hl]; decide)) h1
   have o2 : okW c w (Js 2) = true := Yzz rfl (qF (by decide) (by rw [hl]; decide)) h2
   refine ⟨?_, ?_⟩
   · show runW c (qt c (qt c (qt c w (Js 0)) (Js 1)) (Js 2)) (zv n) = w
     rw [r0, r1, r2, i1]
   · show (okW c w (Js 0) && (okW c (qt c w (Js 0)) (Js 1) && (okW c (qt c (qt c w (Js 0)) (Js 1)) (Js 2) && zl c (qt c (qt c (qt c w (Js 0)) (Js 1)) (Js 2)) (zv n)))) = true
     rw [r0, r1, r2, o0, o1, o2, i2]; rfl
theorem Qy4 (b : Int) (h0 : 1 ≤ b) (h1 : b ≤ 3) : May (cB b) := by
 refine ⟨?_, ?_, ?_, ?_, ?_, ?_, ?_, ?_⟩ <;> simp only [cB] <;> omega
theorem QyR {b : Int} (h0 : 1 ≤ b) (h1 : b ≤ 3) {n k : Nat} (hn : k ≤ n) (hn2 : n ≤ 3000) {w : Wld} (ok : zl (cB b) (wld0 (cB b) []) (inv3 ++ zv k) = true) (hw : runW (cB b) (wld0 (cB b) []) (inv3 ++ zv k) = w)
 (hl : w.T.length = 3) (i0 : Yp w 0 = false) (i1 : Yp w 1 = false) (i2 : Yp w 2 = false) : Jm (cB b) (inv3 ++ zv n) [] = some (outW (cB b) w) := by
 have m := Qy4 b h0 h1
 have hlen := jR n
 have hm : most = 1000000 := rfl
 have k1 : chk5 (cB b) = 0 := qzq m (fun h => by cases h)
 have e : inv3 ++ zv n = (inv3 ++ zv k) ++ zv (n - k) := by
  rw [List.append_assoc, ← qR, show k + (n - k) = n by omega]
 obtain ⟨r1, r2⟩ := JF (cB b) w hl i0 i1 i2 (n - k)
 have hr : runW (cB b) (wld0 (cB b) []) (inv3 ++ zv n) = w := by rw [e, Qz7, hw, r1]
 have ho : zl (cB b) (wld0 (cB b) []) (inv3 ++ zv n) = true := by rw [e, yyc, ok, hw, r2]; rfl
 have hll : (inv3 ++ zv n).length = 3 + 3 * n := by rw [List.length_append, hlen]; rfl
 have hc : ∀ n, ∀ e ∈ zv n, chkE (cB b) e = 0 := by
  intro n
  induction n with
  | zero => intro e he; cases he
  | succ n ih =>
    intro e he
    rcases List.mem_append.1 (show e ∈ rnd ++ zv n from he) with he | he
    · rcases List.mem_cons.1 he with rfl | he
      · exact jM _ (by decide) (by show (0 : Int) < 3; decide)
      · rcases List.mem_cons.1 he with rfl | he
        · exact jM _ (by decide) (by show (1 : Int) < 3; decide)
        · rcases List.mem_cons.1 he with rfl | he
          · exact jM _ (by decide) (by show (2 : Int) < 3; decide)
          · cases he
    · exact ih e he
 have hce : ∀ e ∈ inv3 ++ zv n, chkE (cB b) e = 0 := by
  intro e he
  rcases List.mem_append.1 he with he | he
  · rcases List.mem_cons.1 he with rfl | he
    · exact yzy (cB b) (j := ⟨0, 0, ⟨1, 1⟩⟩) (by decide) (by show (0 : Int) < 3; decide) (by decide) (by show (0 : Int) < 1; decide) rfl
    · rcases List.mem_cons.1 he with rfl | he
      · exact yzy (cB b) (j := ⟨1, 0, ⟨1, 2⟩⟩) (by decide) (by show (1 : Int) < 3; decide) (by decide) (by show (0 : Int) < 1; decide) rfl
      · rcases List.mem_cons.1 he with rfl | he
        · exact yzy (cB b) (j := ⟨2, 0, ⟨1, 4⟩⟩) (by decide) (by show (2 : Int) < 3; decide) (by decide) (by show (0 : Int) < 1; decide) rfl
        · cases he
  · exact hc n e he
 rw [← hr]
 exact YF (Zz7 k1 (by rw [hll]; omega) hce) k1 (Jzz m) (Yzi m (by show (3 : Int) ≤ 6; decide)) (by show 0 ≤ _; omega) (by rw [hll]; omega) ho
set_option maxRecDepth 10000
def wL1 : Wld := ⟨[[.int .i64 1, .int .i64 0, .int .i64 0, .int .i64 1, .int .i64 1, .int .i64 0, .bool false, .int .i64 0], [.int .i64 1, .int .i64 1, .int .i64 0, .int .i64 1, .int .i64 2, .int .i64 0, .bool false, .int .i64 0], [.int .i64 1, .int .i64 2, .int .i64 0, .int .i64 1, .int .i64 4, .int .i64 0, .bool false, .int .i64 0], [.int .i64 2, .int .i64 0, .int .i64 0, .int .i64 1, .int .i64 1, .int .i64 5, .bool true, .int .i64 7], [.int .i64 2, .int .i64 1, .int .i64 0, .int .i64 1, .int .i64 2, .int .i64 6, .bool true, .int .i64 12], [.int .i64 2, .int .i64 2, .int .i64 0, .int .i64 1, .int .i64 4, .int .i64 8, .bool true, .int .i64 15]], [[.int .i64 0, .int .i64 0, .int .i64 1, .int .i64 1, .int .i64 5, .int .i64 7], [.int .i64 1, .int .i64 0, .int .i64 1, .int .i64 2, .int .i64 6, .int .i64 12], [.int .i64 2, .int .i64 0, .int .i64 1, .int .i64 4, .int .i64 8, .int .i64 15]], [[.int .i64 12], [.int .i64 0], [.int .i64 0], [.int .i64 0], [.int .i64 0], [.int .i64 0], [.int .i64 0], [.int .i64 0], [.int .i64 0]], [[(.list 147 [])], [(.list 147 [])], [(.list 147 [])]], (0), (15), [], (0), [[.int .i64 0, .int .i64 0, .int .i64 1, .int .i64 1, (.list 147 [[.int .i64 0, .int .i64 1, .int .i64 1]]), (.list 186 []), (.list 3 []), .int .i64 0, .int .i64 1, .int .i64 0, .int .i64 0, .int .i64 0, .int .i64 1, .int .i64 0, .int .i64 5, .int .i64 6, .int .i64 0], [.int .i64 0, .int .i64 0, .int .i64 1, .int .i64 2, (.list 147 [[.int .i64 1, .int .i64 1, .int .i64 2]]), (.list 186 []), (.list 3 []), .int .i64 0, .int .i64 1, .int .i64 0, .int .i64 0, .int .i64 0, .int .i64 1, .int .i64 0, .int .i64 6, .int .i64 8, .int .i64 0], [.int .i64 0, .int .i64 0, .int .i64 1, .int .i64 4, (.list 147 [[.int .i64 2, .int .i64 1, .int .i64 4]]), (.list 186 []), (.list 3 []), .int .i64 0, .int .i64 1, .int .i64 0, .int .i64 0, .int .i64 0, .int .i64 1, .int .i64 0, .int .i64 8, .int .i64 12, .int .i64 0]]⟩
def wL2 : Wld := ⟨[[.int .i64 1, .int .i64 0, .int .i64 0, .int .i64 1, .int .i64 1, .int .i64 0, .bool false, .int .i64 0], [.int .i64 1, .int .i64 1, .int .i64 0, .int .i64 1, .int .i64 2, .int .i64 0, .bool false, .int .i64 0], [.int .i64 1, .int .i64 2, .int .i64 0, .int .i64 1, .int .i64 4, .int .i64 0, .bool false, .int .i64 0], [.int .i64 2, .int .i64 0, .int .i64 0, .int .i64 1, .int .i64 1, .int .i64 5, .bool true, .int .i64 19], [.int .i64 2, .int .i64 1, .int .i64 0, .int .i64 1, .int .i64 2, .int .i64 6, .bool true, .int .i64 28], [.int .i64 2, .int .i64 2, .int .i64 0, .int .i64 1, .int .i64 4, .int .i64 8, .bool true, .int .i64 33]], [[.int .i64 0, .int .i64 0, .int .i64 1, .int .i64 1, .int .i64 5, .int .i64 19], [.int .i64 1, .int .i64 0, .int .i64 1, .int .i64 2, .int .i64 6, .int .i64 28], [.int .i64 2, .int .i64 0, .int .i64 1, .int .i64 4, .int .i64 8, .int .i64 33]], [[.int .i64 12], [.int .i64 0], [.int .i64 0], [.int .i64 0], [.int .i64 0], [.int .i64 0], [.int .i64 0], [.int .i64 0], [.int .i64 0]], [[(.list 147 [])], [(.list 147 [])], [(.list 147 [])]], (0), (33), [], (0), [[.int .i64 0, .int .i64 0, .int .i64 1, .int .i64 1, (.list 147 [[.int .i64 0, .int .i64 1, .int .i64 1]]), (.list 186 []), (.list 3 [[.int .i64 1]]), .int .i64 0, .int .i64 0, .int .i64 0, .int .i64 0, .int .i64 0, .int .i64 1, .int .i64 0, .int .i64 5, .int .i64 6, .int .i64 0], [.int .i64 0, .int .i64 0, .int .i64 1, .int .i64 2, (.list 147 [[.int .i64 1, .int .i64 1, .int .i64 2]]), (.list 186 []), (.list 3 [[.int .i64 1]]), .int .i64 0, .int .i64 0, .int .i64 0, .int .i64 0, .int .i64 0, .int .i64 1, .int .i64 0, .int .i64 6, .int .i64 8, .int .i64 0], [.int .i64 0, .int .i64 0, .int .i64 1, .int .i64 4, (.list 147 [[.int .i64 2, .int .i64 1, .int .i64 4]]), (.list 186 []), (.list 3 [[.int .i64 1]]), .int .i64 0, .int .i64 0, .int .i64 0, .int .i64 0, .int .i64 0, .int .i64 1, .int .i64 0, .int .i64 8, .int .i64 12, .int .i64 0]]⟩
def wL3 : Wld := ⟨[[.int .i64 1, .int .i64 0, .int .i64 0, .int .i64 1, .int .i64 1, .int .i64 0, .bool false, .int .i64 0], [.int .i64 1, .int .i64 1, .int .i64 0, .int .i64 1, .int .i64 2, .int .i64 0, .bool false, .int .i64 0], [.int .i64 1, .int .i64 2, .int .i64 0, .int .i64 1, .int .i64 4, .int .i64 0, .bool false, .int .i64 0], [.int .i64 2, .int .i64 1, .int .i64 0, .int .i64 1, .int .i64 2, .int .i64 5, .bool true, .int .i64 35], [.int .i64 2, .int .i64 2, .int .i64 0, .int .i64 1, .int .i64 4, .int .i64 8, .bool true, .int .i64 38], [.int .i64 2, .int .i64 0, .int .i64 0, .int .i64 1, .int .i64 1, .int .i64 7, .bool true, .int .i64 39]], [[.int .i64 1, .int .i64 0, .int .i64 1, .int .i64 2, .int .i64 5, .int .i64 29], [.int .i64 0, .int .i64 0, .int .i64 1, .int .i64 1, .int .i64 7, .int .i64 29], [.int .i64 2, .int .i64 0, .int .i64 1, .int .i64 4, .int .i64 8, .int .i64 38]], [[.int .i64 12], [.int .i64 0], [.int .i64 3], [.int .i64 5], [.int .i64 7], [.int .i64 0], [.int .i64 0], [.int .i64 0], [.int .i64 0]], [[(.list 147 [[.int .i64 0, .int .i64 1, .int .i64 1]])], [(.list 147 [[.int .i64 1, .int .i64 1, .int .i64 2]])], [(.list 147 [[.int .i64 2, .int .i64 1, .int .i64 4]])]], (0), (39), [], (0), [[.int .i64 0, .int .i64 0, .int .i64 1, .int .i64 1, (.list 147 [[.int .i64 0, .int .i64 1, .int .i64 1]]), (.list 186 []), (.list 3 []), .int .i64 0, .int .i64 1, .int .i64 0, .int .i64 1, .int .i64 0, .int .i64 1, .int .i64 0, .int .i64 7, .int .i64 0, .int .i64 0], [.int .i64 0, .int .i64 0, .int .i64 1, .int .i64 2, (.list 147 [[.int .i64 1, .int .i64 1, .int .i64 2], [.int .i64 0, .int .i64 1, .int .i64 1]]), (.list 186 [[.int .i64 0, .int .i64 1]]), (.list 3 []), .int .i64 0, .int .i64 1, .int .i64 1, .int .i64 1, .int .i64 0, .int .i64 1, .int .i64 0, .int .i64 5, .int .i64 8, .int .i64 0], [.int .i64 0, .int .i64 0, .int .i64 1, .int .i64 4, (.list 147 [[.int .i64 2, .int .i64 1, .int .i64 4]]), (.list 186 []), (.list 3 []), .int .i64 0, .int .i64 1, .int .i64 0, .int .i64 1, .int .i64 0, .int .i64 1, .int .i64 1, .int .i64 8, .int .i64 12, .int .i64 0]]⟩
theorem ok_1 : zl (cB 1) (wld0 (cB 1) []) (inv3 ++ zv 16) = true := by kernel_rfl
theorem Jy4 : runW (cB 1) (wld0 (cB 1) []) (inv3 ++ zv 16) = wL1 := by kernel_rfl
theorem zy5 {n : Nat} (h0 : 16 ≤ n) (h1 : n ≤ 3000) : Jm (cB 1) (inv3 ++ zv n) [] = some (outW (cB 1) wL1) := QyR (by decide) (by decide) h0 h1 ok_1 Jy4 rfl (by kernel_rfl) (by kernel_rfl) (by kernel_rfl)
theorem ok_2 : zl (cB 2) (wld0 (cB 2) []) (inv3 ++ zv 16) = true := by kernel_rfl
theorem yy5 : runW (cB 2) (wld0 (cB 2) []) (inv3 ++ zv 16) = wL2 := by kernel_rfl
theorem qy5 {n : Nat} (h0 : 16 ≤ n) (h1 : n ≤ 3000) : Jm (cB 2) (inv3 ++ zv n) [] = some (outW (cB 2) wL2) := QyR (by decide) (by decide) h0 h1 ok_2 yy5 rfl (by kernel_rfl) (by kernel_rfl) (by kernel_rfl)
theorem ok_3 : zl (cB 3) (wld0 (cB 3) []) (inv3 ++ zv 16) = true := by kernel_rfl
theorem jy5 : runW (cB 3) (wld0 (cB 3) []) (inv3 ++ zv 16) = wL3 := by kernel_rfl
theorem Zy5 {n : Nat} (h0 : 16 ≤ n) (h1 : n ≤ 3000) : Jm (cB 3) (inv3 ++ zv n) [] = some (outW (cB 3) wL3) := QyR (by decide) (by decide) h0 h1 ok_3 jy5 rfl (by kernel_rfl) (by kernel_rfl) (by kernel_rfl)
set_option maxRecDepth 10000
def Qzi : Nat → Nat → Option ((List Nat × List Nat) × (List Nat × List Nat)) := fun f r => match f, r with
 | 36, 4000002 => some (([], []), ([], []))
 | 19, 4000005 => some (([], []), ([], []))
 | 36, 5000000 => some (([], []), ([], []))
 | 19, 5000000 => some (([], []), ([], []))
 | f, r => QS f r
noncomputable def E19 (N : Nat) : Env := ⟨Tryz.prog, fun _ => none, Qzi, N⟩
theorem qyH (N : Nat) : (E19 N).Ok := ⟨fun f o h => (by cases h), by kernel_rfl, fun g h => (by
 have h' : (Qzi g 1000000).isSome = true := h
 unfold Qzi at h'
 split at h'
 · simp_all
 · simp_all
 · simp_all
 · simp_all
 · unfold QS at h'
   split at h' <;> simp_all)⟩
def Qym : List PK := [(false, [K.list 62])]
set_option maxHeartbeats 4000000
structure s19o where
 r0 ::
 (y12 : List (List PV))
noncomputable def s19W (o : s19o) : Res := (fun y12 => Res.pv (PV.list 62 y12)) o.y12
noncomputable def qyc (N : Nat) (x0 x1 : Int) : Code := Tr.waitC (Tr.sub [true, true, true, true, true, true, true, true, true, false, false] (Qw Qym (qy (E19 N) 100 19 [S23v (cB x0), PV.int .i64 x1])))
inductive s19L0s where
 | s0 
 | s1 (y4 : Int) (y5 : List (List PV))
noncomputable def iku : AV := AV.pv PV.undef
noncomputable def ik1 : Nat × Ob := (1513, Ob.row 1 62 [[PV.int .i64 2, PV.int .i64 0, PV.int .i64 0, PV.int .i64 0, PV.int .i64 0], [PV.int .i64 2, PV.int .i64 1, PV.int .i64 0, PV.int .i64 0, PV.int .i64 0], [PV.int .i64 2, PV.int .i64 2, PV.int .i64 0, PV.int .i64 0, PV.int .i64 0]])
noncomputable def Jz7 (x0 x1 : Int) : s19L0s → St
 | .s0  => { tmps := [iku, AV.pv (PV.int .i64 x1), iku, iku, AV.lit 0 [], AV.own 1513, iku, iku, iku, iku, iku, iku, iku, iku, iku, iku, iku, iku, iku, iku, iku, iku, iku, iku, iku, iku, iku, iku, iku], stack := [], mem := [ik1], cur := 0, ctr := 2, fn := 19 }
 | .s1 y4 y5 => { tmps := [iku, AV.pv (PV.int .i64 y4), iku, iku, AV.own 526, AV.own 1513, iku, iku, iku, iku, iku, iku, iku, iku, iku, iku, iku, iku, iku, iku, iku, iku, iku, iku, iku, iku, iku, iku, iku], stack := [], mem := [(526, Ob.row 1 62 y5), ik1], cur := 0, ctr := 2, fn := 19 }
inductive s19L0e where
 | e0 
 | e1 (y6 : List (List PV))
noncomputable def jyc (x0 x1 : Int) : s19L0e → (Ex × St)
 | .e0  => (Ex.exit 0, { tmps := [iku, iku, iku, iku, AV.lit 0 [], iku, iku, iku, iku, iku, iku, iku, iku, iku, iku, iku, iku, iku, iku, iku, iku, iku, iku, iku, iku, iku, iku, iku, iku], stack := [], mem := [], cur := 0, ctr := 2, fn := 19 })
 | .e1 y6 => (Ex.exit 0, { tmps := [iku, iku, iku, iku, AV.own 526, iku, iku, iku, iku, iku, iku, iku, iku, iku, iku, iku, iku, iku, iku, iku, iku, iku, iku, iku, iku, iku, iku, iku, iku], stack := [], mem := [(526, Ob.row 1 62 y6)], cur := 0, ctr := 2, fn := 19 })
noncomputable def Jym (x0 x1 : Int) : Tr (s19L0s ⊕ s19L0e) := (.test (decide (x1 > (0 : Int))) (.ret (.inl (.s1 (IntKind.i64.wrap (x1 - (1 : Int))) ([[PV.int .i64 2, PV.int .i64 0, PV.int .i64 0, PV.int .i64 0, PV.int .i64 0], [PV.int .i64 2, PV.int .i64 1, PV.int .i64 0, PV.int .i64 0, PV.int .i64 0], [PV.int .i64 2, PV.int .i64 2, PV.int .i64 0, PV.int .i64 0, PV.int .i64 0]])))) (.ret (.inr (.e0))))
noncomputable def zE (x0 x1 z8 : Int) (z9 : List (List PV)) : Tr (s19L0s ⊕ s19L0e) := (.test (decide (z8 > (0 : Int))) (.test (decide ((↑z9.length : Int) ≥ (65536 : Int))) (.ret (.inr (.e1 (z9)))) (.test (decide (z9.length + (1 : Nat) ≤ most)) (.test (decide ((↑(z9 ++ [[PV.int .i64 2, PV.int .i64 0, PV.int .i64 0, PV.int .i64 0, PV.int .i64 0]]).length : Int) ≥ (65536 : Int))) (.ret (.inr (.e1 (z9 ++ [[PV.int .i64 2, PV.int .i64 0, PV.int .i64 0, PV.int .i64 0, PV.int .i64 0]])))) (.test (decide ((z9 ++ [[PV.int .i64 2, PV.int .i64 0, PV.int .i64 0, PV.int .i64 0, PV.int .i64 0]]).length + (1 : Nat) ≤ most)) (.test (decide ((↑(z9 ++ [[PV.int .i64 2, PV.int .i64 0, PV.int .i64 0, PV.int .i64 0, PV.int .i64 0]] ++ [[PV.int .i64 2, PV.int .i64 1, PV.int .i64 0, PV.int .i64 0, PV.int .i64 0]]).length : Int) ≥ (65536 : Int))) (.ret (.inr (.e1 (z9 ++ [[PV.int .i64 2, PV.int .i64 0, PV.int .i64 0, PV.int .i64 0, PV.int .i64 0]] ++ [[PV.int .i64 2, PV.int .i64 1, PV.int .i64 0, PV.int .i64 0, PV.int .i64 0]])))) (.test (decide ((z9 ++ [[PV.int .i64 2, PV.int .i64 0, PV.int .i64 0, PV.int .i64 0, PV.int .i64 0]] ++ [[PV.int .i64 2, PV.int .i64 1, PV.int .i64 0, PV.int .i64 0, PV.int .i64 0]]).length + (1 : Nat) ≤ most)) (.ret (.inl (.s1 (IntKind.i64.wrap (z8 - (1 : Int))) (z9 ++ [[PV.int .i64 2, PV.int .i64 0, PV.int .i64 0, PV.int .i64 0, PV.int .i64 0]] ++ [[PV.int .i64 2, PV.int .i64 1, PV.int .i64 0, PV.int .i64 0, PV.int .i64 0]] ++ [[PV.int .i64 2, PV.int .i64 2, PV.int .i64 0, PV.int .i64 0, PV.int .i64 0]])))) .fail)) .fail)) .fail)) (.ret (.inr (.e1 (z9)))))
noncomputable def yE (N : Nat) (x0 x1 : Int) : s19L0s → Option (s19L0s ⊕ s19L0e)
 | .s0  => Tr.run (Jym x0 x1)
 | .s1 z8 z9 => Tr.run (zE x0 x1 z8 z9)
theorem yzP (N : Nat) (x0 x1 : Int) : ∀ x, (yv (E19 N) 93 19 2 (qyc N x0 x1) (Jz7 x0 x1 x)).run = (yE N x0 x1 x).map (Zt (Jz7 x0 x1) (jyc x0 x1))
 | .s0  => (Tr.run_of (by kernel_rfl))
 | .s1 z8 z9 => (Tr.run_of (by kernel_rfl))
noncomputable def s19 (N : Nat) (x0 x1 : Int) : Option s19o := ((Jv (yE N x0 x1) N (.s0)).bind (fun
 | .e0  => Tr.run (.ret (.r0 ([])))
 | .e1 w11 => Tr.run (.ret (.r0 (w11)))))
theorem JyR (N : Nat) (x0 x1 : Int) : (Qw Qym (qy (E19 N) 100 19 [S23v (cB x0), PV.int .i64 x1])).run = (s19 N x0 x1).map s19W := (yy [true, true, true, true, true, true, true, true, true, false, false] (by kernel_rfl) (Qv (wrap := s19W) (E := E19 N) (n := 93) (f := 19) (c0 := 2) (c := (qyc N x0 x1)) (s := Tr.waitS (Tr.sub [true, true, true, true, true, true, true, true, true, false, false] (Qw Qym (qy (E19 N) 100 19 [S23v (cB x0), PV.int .i64 x1])))) (Jz7 x0 x1) (jyc x0 x1) (yE N x0 x1) (.s0) _ (yzP N x0 x1) (by kernel_rfl) (by kernel_rfl) (by kernel_rfl) (by kernel_rfl) (by kernel_rfl) (fun
 | .e0  => (Tr.run_of (by kernel_rfl))
 | .e1 w11 => (Tr.run_of (by kernel_rfl)))))
set_option maxRecDepth 10000
theorem zyl {N : Nat} {b x1 : Int} {k j : Nat} (h : 3 * j + 3 ≤ 60000) (hk : k < 100000) : yE N b x1 (.s1 ((k + 1 : Nat) : Int) (zv j)) = some (.inl (.s1 (k : Int) (zv (j + 1)))) := by
 have hm : most = 1000000 := rfl
 have hl := jR j
 have e : zv (j + 1) = zv j ++ [Js 0] ++ [Js 1] ++ [Js 2] := by
  rw [qR j 1]
  show zv j ++ (rnd ++ []) = _
  simp [rnd]
 have l1 : (zv j ++ [Js 0]).length = 3 * j + 1 := by simp [hl]
 have l2 : (zv j ++ [Js 0] ++ [Js 1]).length = 3 * j + 2 := by simp [hl]
 have hw : IntKind.i64.wrap (((k + 1 : Nat) : Int) - 1) = (k : Int) := by
  rw [show ((k + 1 : Nat) : Int) - 1 = (k : Int) by omega]
  exact yu (by omega) (by omega)
 show Tr.run (zE b x1 _ _) = _
 unfold zE
 refine zz (decide_eq_true (by omega)) (yz (decide_eq_false (by omega)) (zz (decide_eq_true (by omega)) (yz (decide_eq_false ?_) (zz (decide_eq_true ?_) (yz (decide_eq_false ?_) (zz (decide_eq_true ?_) ?_))))))
 · show ¬ (((zv j ++ [Js 0]).length : Int) ≥ 65536)
   omega
 · show (zv j ++ [Js 0]).length + 1 ≤ most
   omega
 · show ¬ (((zv j ++ [Js 0] ++ [Js 1]).length : Int) ≥ 65536)
   omega
 · show (zv j ++ [Js 0] ++ [Js 1]).length + 1 ≤ most
   omega
 · show some (Sum.inl (s19L0s.s1 (IntKind.i64.wrap (((k + 1 : Nat) : Int) - 1)) (zv j ++ [Js 0] ++ [Js 1] ++ [Js 2]))) = _
   rw [hw, e]
theorem Zyc {N : Nat} {b x1 : Int} : ∀ (k j n : Nat), 3 * (j + k) ≤ 60000 → k < 100000 → Jv (yE N b x1) (k + 1 + n) (.s1 (k : Int) (zv j)) = some (.e1 (zv (j + k)))
 | 0, j, n, h, _ => by
   rw [show 0 + 1 + n = n + 1 by omega]
   exact Qu (yz (decide_eq_false (by omega)) rfl)
 | k + 1, j, n, h, hk => by
   rw [show k + 1 + 1 + n = (k + 1 + n) + 1 by omega, Yw (zyl (by omega) (by omega)), Zyc k (j + 1) n (by omega) (by omega), show j + 1 + k = j + (k + 1) by omega]
theorem zyQ {b x1 : Int} (h0 : 1 ≤ x1) (h1 : x1 ≤ 3000) : s19 (x1.toNat + 10) b x1 = some ⟨zv x1.toNat⟩ := by
 obtain ⟨k, rfl⟩ : ∃ k : Nat, x1 = ((k + 1 : Nat) : Int) := ⟨x1.toNat - 1, by omega⟩
 have hw : IntKind.i64.wrap (((k + 1 : Nat) : Int) - 1) = (k : Int) := by
  rw [show ((k + 1 : Nat) : Int) - 1 = (k : Int) by omega]
  exact yu (by omega) (by omega)
 have e0 : yE (((k + 1 : Nat) : Int).toNat + 10) b ((k + 1 : Nat) : Int) .s0 = some (.inl (.s1 (k : Int) (zv 1))) := by
  refine zz (decide_eq_true (by omega)) ?_
  show some (Sum.inl (s19L0s.s1 (IntKind.i64.wrap (((k + 1 : Nat) : Int) - 1)) (zv 1))) = _
  rw [hw]
 have e1 : Jv (yE (((k + 1 : Nat) : Int).toNat + 10) b ((k + 1 : Nat) : Int)) (((k + 1 : Nat) : Int).toNat + 10) .s0 = some (.e1 (zv (k + 1))) := by
  rw [show ((k + 1 : Nat) : Int).toNat = k + 1 by omega] at *
  rw [show k + 1 + 10 = (k + 1 + 9) + 1 by omega] at *
  rw [Yw e0, Zyc k 1 9 (by omega) (by omega), show 1 + k = k + 1 by omega]
 unfold s19
 rw [e1]
 rfl
def s19s : List PK := [S23k, (false, [.int .i64])]
noncomputable def f19P : Ora := ⟨fun ps => okPs s19s ps && (eqC (S23r (ps.headD PV.undef)) (cB (S23r (ps.headD PV.undef)).a2) && (decide (1 ≤ pInt (ps.tail.headD PV.undef)) && decide (pInt (ps.tail.headD PV.undef) ≤ 3000))), fun ps => .pv (.list 62 (zv (pInt (ps.tail.headD PV.undef)).toNat))⟩
theorem zz8 : Spec Tryz.prog 19 f19P := YY 100 Qym s19s (fun ps => eqC (S23r (ps.headD PV.undef)) (cB (S23r (ps.headD PV.undef)).a2) && (decide (1 ≤ pInt (ps.tail.headD PV.undef)) && decide (pInt (ps.tail.headD PV.undef) ≤ 3000))) _ qv fun ps hm hs hp => by
 obtain ⟨h1, h2⟩ := Bool.and_eq_true_iff.1 hp
 obtain ⟨h2, h3⟩ := Bool.and_eq_true_iff.1 h2
 have h1 := zyc h1
 have h2 := of_decide_eq_true h2
 have h3 := of_decide_eq_true h3
 have hc : ym s19s ps = [S23v (S23r (ps.headD PV.undef)), PV.int .i64 (pInt (ps.tail.headD PV.undef))] := by kernel_rfl
 refine ⟨E19 ((pInt (ps.tail.headD PV.undef)).toNat + 10), s19W ⟨zv (pInt (ps.tail.headD PV.undef)).toNat⟩, rfl, qyH _, ?_, .inr rfl⟩
 rw [hc, h1, JyR, zyQ h2 h3]
 rfl
def s13 : List PK := [S23k, (false, [.list 62]), (false, [.list 3])]
noncomputable def is13 (b : Int) (ps : List PV) : Bool := eqC (S23r (ps.headD PV.undef)) (cB b) && (QzY (Zy (ps.tail.headD PV.undef)) (inv3 ++ zv 644) && (Zy (ps.tail.tail.headD PV.undef)).isEmpty)
noncomputable def yyl (ps : List PV) : f13o := bif is13 1 ps then outW (cB 1) wL1 else bif is13 2 ps then outW (cB 2) wL2 else outW (cB 3) wL3
noncomputable def f13P : Ora := ⟨fun ps => okPs s13 ps && (is13 1 ps || (is13 2 ps || is13 3 ps)), fun ps => (f13W (yyl ps)).plain⟩
theorem Jzi {b : Int} {ps : List PV} (h : is13 b ps = true) : S23r (ps.headD PV.undef) = cB b ∧ Zy (ps.tail.headD PV.undef) = inv3 ++ zv 644 ∧ Zy (ps.tail.tail.headD PV.undef) = [] := by
 obtain ⟨h1, h2⟩ := Bool.and_eq_true_iff.1 h
 obtain ⟨h2, h3⟩ := Bool.and_eq_true_iff.1 h2
 exact ⟨zyc h1, Zzq h2, List.isEmpty_iff.1 h3⟩
theorem qyl {ps : List PV} (h : (is13 1 ps || (is13 2 ps || is13 3 ps)) = true) : Jm (S23r (ps.headD PV.undef)) (Zy (ps.tail.headD PV.undef)) (Zy (ps.tail.tail.headD PV.undef)) = some (yyl ps) := by
 unfold yyl
 cases h1 : is13 1 ps with
 | true =>
   obtain ⟨e1, e2, e3⟩ := Jzi h1
   rw [e1, e2, e3]; exact zy5 (by decide) (by decide)
 | false =>
   cases h2 : is13 2 ps with
   | true =>
     obtain ⟨e1, e2, e3⟩ := Jzi h2
     rw [e1, e2, e3]; exact qy5 (by decide) (by decide)
   | false =>
     rw [h1, h2] at h
     obtain ⟨e1, e2, e3⟩ := Jzi (b := 3) (by simpa using h)
     rw [e1, e2, e3]; exact Zy5 (by decide) (by decide)
theorem yz8 : Spec Tryz.prog 13 f13P := YY 100 Yzk s13 (fun ps => is13 1 ps || (is13 2 ps || is13 3 ps)) _ qv fun ps hm hs hp => by
 have hc : ym s13 ps = [S23v (S23r (ps.headD PV.undef)), PV.list 62 (Zy (ps.tail.headD .undef)), PV.list 3 (Zy (ps.tail.tail.headD .undef))] := by kernel_rfl
 have hr := qyl hp
 refine ⟨E6 ((Zy (ps.tail.headD .undef)).length + 100), f13W (yyl ps), rfl, jyJ _, ?_, .inr rfl⟩
 rw [hc, Zz3]
 show (Jm (S23r (ps.headD PV.undef)) (Zy (ps.tail.headD .undef)) (Zy (ps.tail.tail.headD .undef))).map f13W = _
 rw [hr]; rfl
noncomputable def qz8 (ps : List PV) : Option f21o := f21 ((S39r (ps.headD PV.undef)).a14.length + 1) (S39r (ps.headD PV.undef))
noncomputable def f21P : Ora := ⟨fun ps => okPs [S39k] ps && (qz8 ps).isSome, fun ps => (f21W ((qz8 ps).getD ⟨0⟩)).plain⟩
theorem jz8 : Spec Tryz.prog 21 f21P := zI 100 [S39k] (fun ps => (qz8 ps).isSome) _ qv fun ps hm hs hp => by
 cases h : qz8 ps with
 | none => rw [h] at hp; cases hp
 | some o =>
   refine ⟨EL ((S39r (ps.headD PV.undef)).a14.length + 1), f21W o, rfl, yyp _, ?_, .inr ?_⟩
   · rw [show ym [S39k] ps = [S39v (S39r (ps.headD PV.undef))] from by kernel_rfl, jyT]
     show (qz8 ps).map f21W = _
     rw [h]; rfl
   · rfl
set_option maxRecDepth 10000
noncomputable def E20 (N : Nat) : Env := (E0 N).add 37 f37O
theorem jyH (N : Nat) : (E20 N).Ok := (ya N).add Qzc
set_option maxHeartbeats 4000000
structure f20o where
 r0 ::
 (y1 : Int)
noncomputable def f20W (o : f20o) : Res := (fun y1 => Res.pv (PV.int .i64 y1)) o.y1
noncomputable def Yy5 (x0 : S23) : Tr f20o := (.ret (.r0 (IntKind.i64.wrap ((20 : Int) + IntKind.i64.wrap (IntKind.i64.wrap ((4 : Int) * ((f37 0 x0).getD f37d).y1) * x0.a0)))))
noncomputable def f20 (N : Nat) (x0 : S23) : Option f20o := Tr.run (Yy5 x0)
theorem yyQ (N : Nat) (x0 : S23) : (qy (E20 N) 100 20 [(S23v x0)]).run = (f20 N x0).map f20W := (Tr.run_of (by kernel_rfl))
def f20s : List PK := [S23k]
noncomputable def f20a (ps : List PV) : Option f20o := f20 0 (S23r (ps.headD PV.undef))
noncomputable def f20d : f20o := ⟨0⟩
noncomputable def f20O : Ora := Yu f20s f20a f20W f20d
theorem jyl : Spec Tryz.prog 20 f20O := Qt (jyH 0) qv f20d fun ps => (congrArg (fun l => (qy (E20 0) 100 20 l).run) (by kernel_rfl)).trans (yyQ 0 _)
end Go.Proofs.YtgfnpgnfklcicaaGreatS
