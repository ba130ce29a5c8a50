/- Loops: what a loop comes to, out of what one round comes to. Conditions: none. -/
import Derived.Test.YtkdbccloniaogaaSimSpec
set_option linter.unusedVariables false
set_option linter.unusedSimpArgs false
namespace Go.Proofs.YtkdbccloniaogaaS
open Go Go.RowKit

section
variable {α : Type}
def Tr.isTest : Tr α → Bool
  | .test .. => true
  | _ => false
def Tr.asks : Tr α → Bool
  | .test b _ _ => b
  | _ => false
/-- The part of a run behind tests' outcomes. -/
def Tr.sub : List Bool → Tr α → Tr α
  | [], t => t
  | b :: l, .test _ x y => match b with
    | true => x.sub l
    | false => y.sub l
  | _ :: _, _ => .fail
def Tr.waitN : Tr α → Nat
  | .wait n _ _ _ _ => n
  | _ => 0
def Tr.waitC : Tr α → Code
  | .wait _ c _ _ _ => c
  | _ => .skip
def Tr.waitS : Tr α → St
  | .wait _ _ s _ _ => s
  | _ => ⟨[], [], [], 0, 0, 0⟩
def Tr.waitX : Tr α → Option (Ex × St)
  | .wait _ _ _ x _ => x
  | _ => none
def Tr.waitK : Tr α → Ex × St → Tr α
  | .wait _ _ _ _ k => k
  | _ => fun _ => .fail
theorem Tr.run_test {t : Tr α} {b : Bool} {x y : Option α} (h : t.isTest = true) (hb : t.asks = b) (hx : (t.sub [true]).run = x) (hy : (t.sub [false]).run = y) : t.run = bif b then x else y := by
  cases t with
  | test c u v =>
    subst hb
    subst hx
    subst hy
    rfl
  | _ => cases h
def Tr.isWait : Tr α → Bool
  | .wait .. => true
  | _ => false
theorem Tr.run_wait {t : Tr α} {β : Type} {x : Option β} {T : β → Ex × St} {K : β → Option α} (h : t.isWait = true) (hx : t.waitX = x.map T) (hk : ∀ z, (t.waitK (T z)).run = K z) : t.run = x.bind K := by
  cases t with
  | wait n c s x' k =>
    have hx' : x' = x.map T := hx
    subst hx'
    cases x with
    | none => rfl
    | some z => exact hk z
  | _ => cases h
theorem Tr.run_of {t : Tr α} {β : Type} {g : Tr β} {f : β → α} (h : t.run = (g.bind fun o => .ret (f o)).run) : t.run = g.run.map f := by
  rw [h, Tr.run_bind]
  cases g.run <;> rfl
end
/-- What a round leaves. -/
def after (head fin : St → St) (r : Ex × St) : St ⊕ (Ex × St) :=
  match r.1 with
  | .normal => .inl (head r.2)
  | e => .inr (e, fin r.2)
def loopN {σ τ : Type} (stp : σ → Option (σ ⊕ τ)) : Nat → σ → Option τ
  | 0, _ => none
  | n + 1, x => match stp x with
    | some (.inl y) => loopN stp n y
    | some (.inr z) => some z
    | none => none
def sumMap {σ τ : Type} (S : σ → St) (T : τ → Ex × St) : σ ⊕ τ → St ⊕ (Ex × St)
  | .inl x => .inl (S x)
  | .inr z => .inr (T z)
/-- A loop's round, and what it leaves. -/
def roundAt (E : Env) (n f c0 : Nat) (c : Code) (s : St) : Tr (St ⊕ (Ex × St)) := (evCode E n c s).bind fun r => .ret (after (headOf E f c c0) (finOf E f c c0) r)
theorem iter_run {σ τ : Type} {body : St → Tr (Ex × St)} {head fin : St → St} {S : σ → St} {T : τ → Ex × St} {stp : σ → Option (σ ⊕ τ)}
    (hstep : ∀ x, ((body (S x)).bind fun r => .ret (after head fin r)).run = (stp x).map (sumMap S T)) :
    ∀ (N : Nat) (s : St) (x : σ), head s = S x → (iter body head fin N s).run = (loopN stp N x).map T
  | 0, s, x, _ => rfl
  | N + 1, s, x, h0 => by
    have h1 := hstep x
    rw [Tr.run_bind] at h1
    simp only [iter, loopN]
    rw [Tr.run_bind, h0]
    cases hb : (body (S x)).run with
    | none =>
      rw [hb] at h1
      cases hs : stp x with
      | none => rfl
      | some y => rw [hs] at h1; cases h1
    | some r =>
      rw [hb] at h1
      cases hs : stp x with
      | none => rw [hs] at h1; cases h1
      | some y =>
        rw [hs] at h1
        have h2 : after head fin r = sumMap S T y := Option.some.inj h1
        obtain ⟨e, s'⟩ := r
        cases y with
        | inl y =>
          cases e <;> simp only [after, sumMap] at h2
          · exact iter_run hstep N s' y (Sum.inl.inj h2)
          all_goals cases h2
        | inr z =>
          cases e <;> simp only [after, sumMap] at h2
          · cases h2
          all_goals
            have h3 := Sum.inr.inj h2
            show some _ = some (T z)
            rw [← h3]
/-- A loop that is waited for, out of its round. -/
theorem wait_run {α β : Type} {t : Tr α} {wrap : β → α} {E : Env} {n f c0 : Nat} {c : Code} {s : St} {σ τ : Type} (S : σ → St) (T : τ → Ex × St) (stp : σ → Option (σ ⊕ τ)) (x0 : σ) (K : τ → Option β)
    (hstep : ∀ x, (roundAt E n f c0 c (S x)).run = (stp x).map (sumMap S T))
    (hw : t.isWait = true) (hf : s.fn = f) (hc : s.ctr = c0) (hx : t.waitX = loopAt E (evCode E n) c s) (h0 : headOf E f c c0 s = S x0)
    (hk : ∀ z, (t.waitK (T z)).run = (K z).map wrap) : t.run = ((loopN stp E.N x0).bind K).map wrap := by
  subst hf
  subst hc
  have := iter_run (body := evCode E n c) hstep E.N s x0 h0
  have h2 : t.waitX = (loopN stp E.N x0).map T := hx.trans this
  rw [Tr.run_wait hw h2 hk]
  cases loopN stp E.N x0 <;> rfl
theorem test_run {α β : Type} {t : Tr α} {wrap : β → α} {b : Bool} {x y : Option β} (h : t.isTest = true) (hb : t.asks = b) (hx : (t.sub [true]).run = x.map wrap) (hy : (t.sub [false]).run = y.map wrap) : t.run = (bif b then x else y).map wrap := by
  rw [Tr.run_test h hb hx hy]
  cases b <;> rfl
theorem pInt_int (k : IntKind) (n : Int) : pInt (.int k n) = n := rfl
theorem pBool_bool (b : Bool) : pBool (.bool b) = b := rfl
theorem pStr_str (b : ByteArray) : pStr (.str b) = b := rfl
theorem pList_list (t : Nat) (xs : List (List PV)) : pList (.list t xs) = xs := rfl
theorem eta_int (k : IntKind) (p : PV) : eta (.int k) p = .int k (pInt p) := rfl
theorem eta_bool (p : PV) : eta .bool p = .bool (pBool p) := rfl
theorem eta_str (p : PV) : eta .str p = .str (pStr p) := rfl
theorem eta_list (t : Nat) (p : PV) : eta (.list t) p = .list t (pList p) := rfl
theorem etas_cons (k : K) (ks : List K) (l : List PV) : etas (k :: ks) l = eta k (l.headD .undef) :: etas ks l.tail := rfl
theorem etas_nil (l : List PV) : etas [] l = [] := rfl
theorem getD0 (p : PV) (l : List PV) (d : PV) : (p :: l).getD 0 d = p := rfl
theorem getDs (p : PV) (l : List PV) (n : Nat) (d : PV) : (p :: l).getD (n + 1) d = l.getD n d := rfl
theorem cellsAgg (cs : List PV) : (PV.agg cs).cells = cs := rfl
theorem test_true {α β : Type} {t : Tr α} {wrap : β → α} {x : Option β} (h : t.isTest = true) (hb : t.asks = true) (hx : (t.sub [true]).run = x.map wrap) : t.run = x.map wrap := by
  rw [Tr.run_test h hb hx rfl]
  rfl
theorem test_false {α β : Type} {t : Tr α} {wrap : β → α} {x : Option β} (h : t.isTest = true) (hb : t.asks = false) (hx : (t.sub [false]).run = x.map wrap) : t.run = x.map wrap := by
  rw [Tr.run_test h hb rfl hx]
  rfl
end Go.Proofs.YtkdbccloniaogaaS
