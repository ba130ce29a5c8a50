/- Operations that look at values alone: each does what the plainer run says. Conditions: none. -/
import Derived.Test.YtkdbccloniaogaaSimPur
import Derived.Laws.BytesString
import Derived.Laws.Cells
set_option linter.unusedVariables false
set_option linter.unusedSimpArgs false
namespace Go.Proofs.YtkdbccloniaogaaS
open Go Go.RowKit

section
variable {P : Program} {X : Out} {s : St} {mu : Nat → Option Nat} {ka : Nat → Nat} {cst : List (List Value)} {act : Act} {w : World} {E : Env} {fr : Nat} {o : Oper} {p : AV × List Eff} {K : Act → World → Prop} {Q : Exit → Act → World → Prop}
theorem sound_move (h : Rel E.P X s mu ka cst act.tmps.toList w) {x : Operand} (ho : o.op = .move x ∨ o.op = .assign x) (hp : (evOp E fr o).val s.view = some p) (hK : Next E.P X (s.app o.dst p) cst act K) : o.wp E.P act w K Q := by
  have hp' : ((rdO x).bind okV).val s.view = some p := by rcases ho with ho | ho <;> simpa only [evOp, ho] using hp
  obtain ⟨v, h1, h2⟩ := val_bind hp'
  obtain rfl := val_okV h2
  refine good_plain h ?_ (h.op h1) hK
  rcases ho with ho | ho <;> simp [execOp, ho]
theorem sound_pick (h : Rel E.P X s mu ka cst act.tmps.toList w) {c x y : Operand} (ho : o.op = .pick c x y) (hp : (evOp E fr o).val s.view = some p) (hK : Next E.P X (s.app o.dst p) cst act K) : o.wp E.P act w K Q := by
  simp only [evOp, ho] at hp
  obtain ⟨c', h1, hp⟩ := val_bind hp
  split at hp
  · rename_i c'
    obtain ⟨a', h2, hp⟩ := val_bind hp
    obtain ⟨b', h3, hp⟩ := val_bind hp
    have hc := va_pv (h.op h1)
    simp only [VP] at hc
    cases c'
    · simp only [Rd.val, cond_false] at hp
      obtain rfl := val_okV hp
      exact good_plain h (by simp [execOp, ho, hc, asBool, Sem.run_pure]) (h.op h3) hK
    · simp only [Rd.val, cond_true] at hp
      obtain rfl := val_okV hp
      exact good_plain h (by simp [execOp, ho, hc, asBool, Sem.run_pure]) (h.op h2) hK
  · simp [Rd.val] at hp
theorem sound_extract (h : Rel E.P X s mu ka cst act.tmps.toList w) {x : Operand} {k : Nat} (ho : o.op = .extract x k) (hp : (evOp E fr o).val s.view = some p) (hK : Next E.P X (s.app o.dst p) cst act K) : o.wp E.P act w K Q := by
  simp only [evOp, ho] at hp
  obtain ⟨v, h1, hp⟩ := val_bind hp
  split at hp
  · rename_i vs
    split at hp
    · rename_i v hv
      obtain rfl := val_okV hp
      have hx := h.op h1
      simp only [VA] at hx
      obtain ⟨us, hu, hvs⟩ := hx
      obtain ⟨u, hu1, hu2⟩ := hvs.get hv
      refine good_plain h ?_ hu2 hK
      simp [execOp, ho, hu, Instr.extract, hu1]
    · simp [Rd.val] at hp
  · simp [Rd.val] at hp
theorem sound_makeFunc (h : Rel E.P X s mu ka cst act.tmps.toList w) {f : Fn} {x y : Array Operand} (ho : o.op = .makeFunc f x y) (hp : (evOp E fr o).val s.view = some p) (hK : Next E.P X (s.app o.dst p) cst act K) : o.wp E.P act w K Q := by
  simp only [evOp, ho] at hp
  obtain ⟨a, h1, hp⟩ := val_bind hp
  obtain ⟨b, h2, hp⟩ := val_bind hp
  obtain rfl := val_okV hp
  refine good_plain (u := .func f (x.map act.eval) (y.map act.eval)) h (by simp [execOp, ho, Instr.makeFunc]) ?_ hK
  simp only [VA]
  refine ⟨_, _, ?_, h.opsL h1, h.opsL h2⟩
  congr 1 <;> (apply Array.ext'; simp)
theorem run_under {t : Nat} {d : TypeDesc} (h : P.underlying t = some d) (w : World) : (underlying t).run P w = .ok d w := by simp [underlying, h]
theorem sound_makeInterface (h : Rel E.P X s mu ka cst act.tmps.toList w) {t : Nat} {x : Operand} (ho : o.op = .makeInterface t x) (hp : (evOp E fr o).val s.view = some p) (hK : Next E.P X (s.app o.dst p) cst act K) : o.wp E.P act w K Q := by
  simp only [evOp, ho] at hp
  obtain ⟨v, h1, hp⟩ := val_bind hp
  split at hp
  · simp [Rd.val] at hp
  · rename_i d hn hd
    obtain rfl := val_okV hp
    refine good_plain (u := .iface t (act.eval x)) h ?_ ?_ hK
    · simp only [execOp, ho, Instr.makeInterface, Sem.run_bind, run_under hd, Result.andThen_ok]
      cases d <;> first | rfl | (exact absurd hd (hn _))
    · simp only [VA]
      exact ⟨_, rfl, h.op h1⟩
  · simp [Rd.val] at hp
theorem ref_value {c : Cx} {v : AV} {u : Value} (hr : isRef v = true) (hv : VA P c v u) : (∃ a, u = .pointer (some a)) ∨ ∃ f as bs, u = .func (.func f) as bs := by
  cases v with
  | ptr id off =>
    simp only [VA] at hv
    obtain ⟨b, _, hv⟩ := hv
    exact .inl ⟨_, hv⟩
  | rpt id i off =>
    simp only [VA] at hv
    obtain ⟨b, t, n, _, _, _, hv⟩ := hv
    exact .inl ⟨_, hv⟩
  | ept t xs i off =>
    simp only [VA] at hv
    obtain ⟨b, o', us, _, _, _, _, hv⟩ := hv
    exact .inl ⟨_, hv⟩
  | fn f first cap =>
    cases f with
    | func f =>
      simp only [VA] at hv
      obtain ⟨as, bs, hv, _⟩ := hv
      exact .inr ⟨_, _, _, hv⟩
    | _ => simp [isRef] at hr
  | _ => simp [isRef] at hr
theorem sound_nilCheck (h : Rel E.P X s mu ka cst act.tmps.toList w) {x : Operand} (ho : o.op = .nilCheck x) (hp : (evOp E fr o).val s.view = some p) (hK : Next E.P X (s.app o.dst p) cst act K) : o.wp E.P act w K Q := by
  simp only [evOp, ho] at hp
  obtain ⟨v, h1, hp⟩ := val_bind hp
  obtain ⟨hr, hp⟩ := val_guard hp
  obtain rfl := val_okV hp
  have hx := h.op h1
  refine good_plain h ?_ hx hK
  rcases ref_value hr hx with ⟨a, e⟩ | ⟨f, as, bs, e⟩ <;> simp [execOp, ho, e]
theorem run_unary_neg (k : IntKind) (n : Int) (w : World) : (Op.unary .neg (.int k n)).run P w = .ok (.int k (k.wrap (0 - n))) w := rfl
theorem sound_unOp (h : Rel E.P X s mu ka cst act.tmps.toList w) {op : UnOp} {t : Nat} {x : Operand} (ho : o.op = .unOp op t x) (hp : (evOp E fr o).val s.view = some p) (hK : Next E.P X (s.app o.dst p) cst act K) : o.wp E.P act w K Q := by
  simp only [evOp, ho] at hp
  obtain ⟨v, h1, hp⟩ := val_bind hp
  obtain ⟨q, h2, hp⟩ := val_bind hp
  obtain rfl := val_okV hp
  have hx := h.op h1
  unfold unA at h2
  split at h2
  · simp only [Rd.val, Option.some.injEq] at h2
    subst h2
    have hx' := va_pv hx
    simp only [VP] at hx'
    exact good_plain (u := .int _ _) h (by simp only [execOp, ho, hx', Sem.run_bind, run_unary_neg, Result.andThen_ok, Sem.run_pure]; rfl) (by simp [VA, VP]) hK
  · simp only [Rd.val, Option.some.injEq] at h2
    subst h2
    have hx' := va_pv hx
    simp only [VP] at hx'
    exact good_plain (u := .bool _) h (by simp only [execOp, ho, hx', Op.unary, Sem.run_bind, Result.andThen_ok, Sem.run_pure]; rfl) (by simp [VA, VP]) hK
  · simp [Rd.val] at h2
theorem isU8_of {P : Program} {e : Nat} (h : isU8 P e = true) : P.underlying e = some (.int .u8) := by
  unfold isU8 at h
  split at h
  · assumption
  · cases h
theorem kinds_u8 {P : Program} {e : Nat} (h : P.underlying e = some (.int .u8)) : kinds P e = [.int .u8] := by
  simp [kinds, kindsT, h]
theorem bytes_are {P : Program} {w : World} {S : Nat → Nat → Prop} : ∀ {xs : List (List PV)} {us : List Value}, (∀ e ∈ xs, cfs [.int .u8] e) → VPss P w S xs us → us = (xs.map fun e => pInt (e.headD .undef)).map (Value.int .u8)
  | [], us, _, h => by
    simp only [VPss] at h
    subst h
    rfl
  | e :: xs, us, hc, h => by
    simp only [VPss] at h
    obtain ⟨u1, u2, rfl, h1, h2⟩ := h
    have he := hc e (by simp)
    have := bytes_are (fun f hf => hc f (by simp [hf])) h2
    match e, he, h1 with
    | [c], he, h1 =>
      obtain ⟨⟨n, rfl⟩, _⟩ := he
      simp only [VPs, VP] at h1
      obtain ⟨u, us', rfl, rfl, rfl⟩ := h1
      rw [this]
      rfl
theorem sound_convert (h : Rel E.P X s mu ka cst act.tmps.toList w) {t d : Nat} {x : Operand} (ho : o.op = .convert t d x) (hp : (evOp E fr o).val s.view = some p) (hK : Next E.P X (s.app o.dst p) cst act K) : o.wp E.P act w K Q := by
  simp only [evOp, ho] at hp
  obtain ⟨v, h1, hp⟩ := val_bind hp
  have hx := h.op h1
  split at hp
  · rename_i k1 k2 k3 n e1 e2
    obtain rfl := val_okV hp
    have hx' := va_pv hx
    simp only [VP] at hx'
    refine good_plain (u := .int k2 (k2.wrap n)) h ?_ (by simp only [VA, VP]) hK
    simp only [execOp, ho, hx', convert, Sem.run_bind, run_under e1, run_under e2, Result.andThen_ok, Conv.intToInt, Sem.run_pure]
  · rename_i s' e1 e2
    obtain rfl := val_okV hp
    have hx' := va_pv hx
    simp only [VP] at hx'
    refine good_plain (u := .string s') h ?_ (by simp only [VA, VP]) hK
    simp only [execOp, ho, hx', convert, Sem.run_bind, run_under e1, run_under e2, Result.andThen_ok, Sem.run_pure]
  · rename_i el v e1 e2
    obtain ⟨g1, hp⟩ := val_guard hp
    obtain ⟨y, h2, hp⟩ := val_bind hp
    obtain ⟨g2, hp⟩ := val_guard hp
    obtain rfl := val_okV hp
    have hu8 := isU8_of g1
    obtain ⟨A, k, us, x1, x2, x3, x4, x5⟩ := elems_sound h h2 hx
    obtain ⟨ye, ys⟩ := y
    simp only at x1 x2 x3 x4 x5 g2
    obtain rfl := eq_of_beq g2
    rw [kinds_u8 hu8] at x3
    have hus := bytes_are x3 x5
    refine good_plain (u := .string (strOf ys)) h ?_ (by simp only [VA, VP]) hK
    simp only [execOp, ho, x1, Sem.run_bind]
    rw [run_convert_bytes_string w t d ye A ys.length k e1 hu8 e2]
    cases A with
    | none =>
      have hl : ys = [] := by
        rcases x4 with rfl | ⟨b, o, q, _⟩
        · cases ys with
          | nil => rfl
          | cons a l => simp at hus
        · cases q
      subst hl
      rfl
    | some a =>
      rw [run_bytesToString w a ys.length k (ys.map fun e => pInt (e.headD .undef)) ?_]
      · rfl
      · rw [← hus]
        have hl : us.length = ys.length := by rw [hus]; simp
        rw [← hl]
        refine run_loadCells_list w a us fun j v hj => ?_
        rcases x4 with rfl | ⟨b, o, q, hr⟩
        · simp at hj
        · cases q
          by_cases hj0 : j = 0
          · subst hj0
            simpa [Addr.add] using hr 0 v hj
          · simp only [Addr.add, if_neg hj0]
            exact hr j v hj
  · simp [Rd.val] at hp
/-! Two operands -/
theorem run_guard_int (op : BinOp) (t : Nat) (x y : Operand) (k j : IntKind) (a b : Int) (w : World) : (eqGuard op t x y (.int k a) (.int j b)).run P w = .ok () w := by
  unfold eqGuard; split <;> rfl
theorem run_guard_str (op : BinOp) (t : Nat) (x y : Operand) (a b : ByteArray) (w : World) : (eqGuard op t x y (.string a) (.string b)).run P w = .ok () w := by
  unfold eqGuard; split <;> rfl
theorem run_guard_bool (op : BinOp) (t : Nat) (x y : Operand) (a b : Bool) (w : World) : (eqGuard op t x y (.bool a) (.bool b)).run P w = .ok () w := by
  unfold eqGuard; split <;> rfl
/-- A number, a bool, a string as a value. -/
def pval : PV → Value
  | .int k n => .int k n
  | .bool b => .bool b
  | .str s => .string s
  | _ => undef
def scal : PV → Prop
  | .int _ _ | .bool _ | .str _ => True
  | _ => False
theorem scal.vp {q : PV} (h : scal q) (w : World) (S : Nat → Nat → Prop) : VP P w S q (pval q) := by
  cases q <;> simp only [scal] at h <;> simp only [VP, pval]
theorem arith_sound {v0 : View} {op : BinOp} {k : IntKind} {a b : Int} {q : PV} (hq : (arith op k a b).val v0 = some q) (hs : op ≠ .shl ∧ op ≠ .shr) (t : Nat) (w : World) :
    (binOp op t (.int k a) (.int k b)).run P w = .ok (pval q) w ∧ scal q := by
  cases op <;> simp only [arith] at hq
  case add => simp only [Rd.val, Option.some.injEq] at hq; subst hq; exact ⟨by simp [binOp, Op.intArith, pval], trivial⟩
  case sub => simp only [Rd.val, Option.some.injEq] at hq; subst hq; exact ⟨by simp [binOp, Op.intArith, pval], trivial⟩
  case mul => simp only [Rd.val, Option.some.injEq] at hq; subst hq; exact ⟨by simp [binOp, Op.intArith, pval], trivial⟩
  case quo =>
    obtain ⟨hc, hq⟩ := val_chk hq
    have hc' := of_decide_eq_true hc
    simp only [Rd.val, Option.some.injEq] at hq; subst hq
    exact ⟨by simp [binOp, Op.intDiv, hc', pval], trivial⟩
  case rem =>
    obtain ⟨hc, hq⟩ := val_chk hq
    have hc' := of_decide_eq_true hc
    simp only [Rd.val, Option.some.injEq] at hq; subst hq
    exact ⟨by simp [binOp, Op.intDiv, hc', pval], trivial⟩
  case and => simp only [Rd.val, Option.some.injEq] at hq; subst hq; exact ⟨by simp [binOp, Op.intBits, pval], trivial⟩
  case or => simp only [Rd.val, Option.some.injEq] at hq; subst hq; exact ⟨by simp [binOp, Op.intBits, pval], trivial⟩
  case xor => simp only [Rd.val, Option.some.injEq] at hq; subst hq; exact ⟨by simp [binOp, Op.intBits, pval], trivial⟩
  case shl => exact absurd rfl hs.1
  case shr => exact absurd rfl hs.2
  case eql => simp only [Rd.val, Option.some.injEq] at hq; subst hq; exact ⟨by simp [binOp, Op.intCmp, pval], trivial⟩
  case neq => simp only [Rd.val, Option.some.injEq] at hq; subst hq; exact ⟨by simp [binOp, Op.intCmp, pval], trivial⟩
  case lss => simp only [Rd.val, Option.some.injEq] at hq; subst hq; exact ⟨by simp [binOp, Op.intCmp, pval], trivial⟩
  case leq => simp only [Rd.val, Option.some.injEq] at hq; subst hq; exact ⟨by simp [binOp, Op.intCmp, pval], trivial⟩
  case gtr => simp only [Rd.val, Option.some.injEq] at hq; subst hq; exact ⟨by simp [binOp, Op.intCmp, pval], trivial⟩
  case geq => simp only [Rd.val, Option.some.injEq] at hq; subst hq; exact ⟨by simp [binOp, Op.intCmp, pval], trivial⟩
  all_goals simp [Rd.val] at hq
theorem shift_sound {v0 : View} {op : BinOp} {k j : IntKind} {a b : Int} {q : PV} (hq : (arith op k a b).val v0 = some q) (hs : op = .shl ∨ op = .shr) (t : Nat) (w : World) :
    (binOp op t (.int k a) (.int j b)).run P w = .ok (pval q) w ∧ scal q := by
  rcases hs with rfl | rfl
  all_goals
    simp only [arith] at hq
    obtain ⟨hc, hq⟩ := val_chk hq
    have hc' : ¬ b < 0 := by have := of_decide_eq_true hc; omega
    simp only [Rd.val, Option.some.injEq] at hq; subst hq
    exact ⟨by simp [binOp, Op.shift, hc', pval], trivial⟩
theorem str_sound {v0 : View} {op : BinOp} {a b : ByteArray} {q : PV} (hq : (strOp op a b).val v0 = some q) (t : Nat) (w : World) :
    (binOp op t (.string a) (.string b)).run P w = .ok (pval q) w ∧ scal q := by
  cases op <;> simp only [strOp] at hq
  case add =>
    obtain ⟨hc, hq⟩ := val_chk hq
    have hc' := of_decide_eq_true hc
    simp only [Rd.val, Option.some.injEq] at hq; subst hq
    have hn : ¬ (((a.size + b.size : Nat) : Int) > IntKind.i64.max) := by
      have e2 : IntKind.i64.max = 9223372036854775807 := by decide
      rw [e2]; omega
    exact ⟨by simp only [binOp, Op.stringOp, if_neg hn, Sem.run_pure, pval], trivial⟩
  case eql => simp only [Rd.val, Option.some.injEq] at hq; subst hq; exact ⟨by simp only [binOp, Op.stringOp, Sem.run_pure, pval], trivial⟩
  case neq => simp only [Rd.val, Option.some.injEq] at hq; subst hq; exact ⟨by simp only [binOp, Op.stringOp, Sem.run_pure, pval], trivial⟩
  all_goals simp [Rd.val] at hq
end
end Go.Proofs.YtkdbccloniaogaaS
