/- The same, for those that call it. Conditions: what functions that are not walked into hand back. -/
import Derived.Test.YtjoebchkchoomaaSimMap
set_option linter.unusedVariables false
set_option linter.unusedSimpArgs false
namespace Go.Proofs.YtjoebchkchoomaaS
open Go Go.RowKit

section
variable {P : Program} {X : Out} {s : St} {mu : Nat → Option Nat} {ka : Nat → Nat} {cst : List (List Value)} {act : Act} {a : List Value} {w : World} {E : Env} {fr : Nat} {o : Oper} {p : AV × List Eff} {K : Act → World → Prop} {Q : Exit → Act → World → Prop} {ops : Array Oper}
theorem ops_one {i : Nat} {l : List Nat} (ho : ops[i]? = some o) (hg : o.guard = none) (h : o.wp P act w (wpOps P ops Q l) Q) : wpOps P ops Q (i :: l) act w := by
  unfold wpOps
  rw [ho]
  have : Region.wanted o (yielded ops act.tmps) = true := by simp [Region.wanted, hg]
  simp only [this, if_true]
  exact .inl h
theorem wp_value {u : Value} {w' : World} (hr : (execOp act.eval o).run P w = .ok (.value u) w') (h : K (act.put o.dst u) w') : o.wp P act w K Q := by
  unfold Oper.wp
  rw [hr]
  exact h
theorem wp_skips {w' : World} (hr : (execOp act.eval o).run P w = .ok .skip w') (h : K (act.put o.dst undef) w') : o.wp P act w K Q := by
  unfold Oper.wp
  rw [hr]
  exact h
theorem put_rel (h : Rel P X s mu ka cst act.tmps.toList w) (dst : Option Nat) {v : AV} {u : Value} (hv : VA P (cx P X s.mem mu ka w) v u) : Rel P X (s.put dst v) mu ka cst (act.put dst u).tmps.toList w := by
  rw [put_toList]
  exact h.put dst hv
theorem run_val {α : Type} {v : View} {x : Rd α} {ks : List Key} {r : α × List Key} (h : (x.run v ks).run = some r) : x.val v = some r.1 := Rd.val_of_run h
theorem evM_sound {b : Nat} : ∀ (l : List Nat) (s : St) (kv : List (Int × AV)) (hd : List Nat) (r : St × List (Int × AV) × List Nat), (evM E ops l s kv hd).run = some r →
    ∀ (act : Act) (w : World), Rel E.P X s mu ka cst act.tmps.toList w → MapAt E.P X s mu ka act w b kv hd → act.defers = [] →
    (∀ (act' : Act) w', Rel E.P X r.1 mu ka cst act'.tmps.toList w' → MapAt E.P X r.1 mu ka act' w' b r.2.1 r.2.2 → act'.defers = [] → Q .normal act' w') → wpOps E.P ops Q l act w
  | [], s, kv, hd, r, hr, act, w, h, hm, hdf, hQ => by
    simp only [evM, Tr.run, Option.some.injEq] at hr
    subst hr
    exact hQ act w h hm hdf
  | i :: l, s, kv, hd, r, hr, act, w, h, hm, hdf, hQ => by
    simp only [evM] at hr
    cases ho : ops[i]? with
    | none => rw [ho] at hr; simp [Tr.run] at hr
    | some o =>
      rw [ho] at hr
      simp only at hr
      cases hg : o.guard with
      | some g => rw [hg] at hr; simp [Tr.run] at hr
      | none =>
        rw [hg] at hr
        simp only at hr
        refine ops_one ho hg ?_
        have dput : ∀ (dst : Option Nat) (u : Value), (act.put dst u).defers = [] := fun dst u => by cases dst <;> exact hdf
        have plain : (match still o.op with
          | false => Tr.fail
          | true => ((evOp E s.cur o).run s.view []).bind fun r => match r.1.2 with
            | [] => evM E ops l (s.put o.dst r.1.1) kv (drop1 o.dst hd)
            | _ :: _ => .fail).run = some r → o.wp E.P act w (wpOps E.P ops Q l) Q := by
          intro hr
          cases hs : still o.op with
          | false => rw [hs] at hr; simp [Tr.run] at hr
          | true =>
            rw [hs] at hr
            obtain ⟨q, h1, h2⟩ := tr_bind hr
            cases he : q.1.2 with
            | cons _ _ => rw [he] at h2; simp [Tr.run] at h2
            | nil =>
              rw [he] at h2
              have h3 := run_val h1
              have h4 : (evOp E s.cur o).val s.view = some (q.1.1, []) := by rw [h3, ← he]
              obtain ⟨u, g1, g2⟩ := still_sound h hs h4
              exact wp_value g1 (evM_sound l _ _ _ r h2 _ w (put_rel h o.dst g2) (hm.put o.dst u q.1.1) (dput _ _) hQ)
        have holds : ∀ m x, (o.op = .move x ∨ o.op = .assign x) → x = .tmp m → hd.contains m = true → ∀ d, o.dst = some d → ((match decide (d < s.tmps.length) with
              | true => evM E ops l (s.put (some d) (.pv .undef)) kv (d :: drop1 (some d) hd)
              | false => Tr.fail).run = some r) → o.wp E.P act w (wpOps E.P ops Q l) Q := by
          intro m x hx hx2 hc d hdst hr
          subst hx2
          cases hlt : decide (d < s.tmps.length) with
          | false => rw [hlt] at hr; simp [Tr.run] at hr
          | true =>
            rw [hlt] at hr
            have hlt' : d < act.tmps.size := by
              have e : act.tmps.size = s.tmps.length := by rw [← h.tms.length, Array.length_toList]
              rw [e]
              exact of_decide_eq_true hlt
            have hv := hm.held m (by simpa using hc)
            have hrun : (execOp act.eval o).run E.P w = .ok (.value (.map (some b))) w := by
              rcases hx with hx | hx <;> simp [execOp, hx, hv]
            refine wp_value hrun ?_
            rw [hdst]
            exact evM_sound l _ _ _ r hr _ w (put_rel h (some d) (by simp only [VA, VP])) (hm.hold hlt') (dput _ _) hQ
        split at hr
        · rename_i t m k x hop
          cases hc : hd.contains m && (mapT E.P t && kv.all fun y => !(y.1 == k)) with
          | false => rw [hc] at hr; simp [Tr.run] at hr
          | true =>
            rw [hc] at hr
            simp only [Bool.and_eq_true] at hc
            obtain ⟨v, h1, h2⟩ := tr_bind hr
            have hv := h.op (run_val h1)
            obtain ⟨es, clock, e1, e2⟩ := hm.at_
            have hmap := hm.held m (by simpa using hc.1)
            have hf := e2.miss 0 hc.2.2
            have hins := run_insert (val := act.eval x) hc.2.1 e1 hf
            obtain ⟨k1, k2⟩ := h.remap e1 hm.low hm.off (es.push { key := .int .i64 k, val := act.eval x, born := clock }) (clock + 1)
            have hrun : (execOp act.eval o).run E.P w = .ok .skip { w with heap := w.heap.setIfInBounds b (.map (es.push { key := .int .i64 k, val := act.eval x, born := clock }) (clock + 1)) } := by
              have hk : act.eval (.const (.int .i64 k)) = .int .i64 k := rfl
              simp [execOp, hop, hmap, hk, hins]
            refine wp_skips hrun ?_
            have hm' : MapAt E.P X s mu ka act { w with heap := w.heap.setIfInBounds b (.map (es.push { key := .int .i64 k, val := act.eval x, born := clock }) (clock + 1)) } b (kv ++ [(k, v.1)]) hd := by
              refine ⟨hm.low, hm.off, ⟨_, _, (MapKept.heap_set e1).1, ?_⟩, hm.held⟩
              rw [Array.toList_push]
              exact (e2.le k1).snoc rfl (VA.le k1 _ _ hv)
            exact evM_sound l _ _ _ r h2 _ _ (put_rel k2 o.dst (by simp only [VA]; exact ⟨[], rfl, by simp [VAs]⟩)) (hm'.put o.dst _ _) (dput _ _) hQ
        · rename_i t m x hop
          cases hc : hd.contains m && mapT E.P t with
          | false => rw [hc] at hr; simp [Tr.run] at hr
          | true =>
            rw [hc] at hr
            simp only [Bool.and_eq_true] at hc
            obtain ⟨v, h1, h2⟩ := tr_bind hr
            have hv := h.op (run_val h1)
            split at h2
            · rename_i n hn
              rw [hn] at hv
              have hv' := va_pv hv
              simp only [VP] at hv'
              obtain ⟨q, h3, h4⟩ := tr_bind h2
              obtain ⟨es, clock, e1, e2⟩ := hm.at_
              have hmap := hm.held m (by simpa using hc.1)
              rcases e2.seek 0 h3 with ⟨rfl, hf⟩ | ⟨j, u, g1, g2, hf⟩
              · have hrun : (execOp act.eval o).run E.P w = .ok (.value (.tuple #[.nilFunc, .bool false])) w := by
                  have := run_seek hc.2 e1 hf
                  simp [execOp, hop, hmap, hv', this]
                refine wp_value hrun ?_
                refine evM_sound l _ _ _ r h4 _ w (put_rel h o.dst ?_) (hm.put o.dst _ _) (dput _ _) hQ
                simp only [VA]
                exact ⟨[.nilFunc, .bool false], rfl, by simp [VAs, VA, VP]⟩
              · have hrun : (execOp act.eval o).run E.P w = .ok (.value (.tuple #[u, .bool true])) w := by
                  have := run_seek hc.2 e1 hf
                  simp [execOp, hop, hmap, hv', this]
                refine wp_value hrun ?_
                refine evM_sound l _ _ _ r h4 _ w (put_rel h o.dst ?_) (hm.put o.dst _ _) (dput _ _) hQ
                simp only [VA]
                refine ⟨[u, .bool true], rfl, ?_⟩
                simp only [VAs]
                exact ⟨u, _, rfl, g2, .bool true, [], rfl, by rw [g1]; simp only [VA, VP], rfl⟩
            · simp [Tr.run] at h2
        · rename_i m hop
          cases hc : hd.contains m with
          | false => rw [hc] at hr; exact plain hr
          | true =>
            rw [hc] at hr
            cases hdst : o.dst with
            | none => rw [hdst] at hr; simp [Tr.run] at hr
            | some d => rw [hdst] at hr; exact holds m _ (.inl hop) rfl hc d hdst hr
        · rename_i m hop
          cases hc : hd.contains m with
          | false => rw [hc] at hr; exact plain hr
          | true =>
            rw [hc] at hr
            cases hdst : o.dst with
            | none => rw [hdst] at hr; simp [Tr.run] at hr
            | some d => rw [hdst] at hr; exact holds m _ (.inr hop) rfl hc d hdst hr
        · exact plain hr
theorem evMake_sound {id : Nat} {r : St × List (Int × AV) × List Nat} (hr : (evMake E ops s).run = some r) (h : Rel E.P X s mu ka cst act.tmps.toList w) (hdf : act.defers = [])
    (hQ : ∀ (act' : Act) w' b, Rel E.P X r.1 mu ka cst act'.tmps.toList w' → MapAt E.P X r.1 mu ka act' w' b r.2.1 r.2.2 → act'.defers = [] → Q .normal act' w') : (Code.region id ops false).wp E.P Q act w := by
  unfold evMake at hr
  split at hr
  · rename_i o ho
    split at hr
    · rename_i t d hg hop hdst
      cases hlt : decide (d < s.tmps.length) with
      | false => rw [hlt] at hr; simp [Tr.run] at hr
      | true =>
        rw [hlt] at hr
        have hlt' : d < act.tmps.size := by
          have e : act.tmps.size = s.tmps.length := by rw [← h.tms.length, Array.length_toList]
          rw [e]
          exact of_decide_eq_true hlt
        refine wp_region ?_
        have hsz : 0 < ops.size := (Array.getElem?_eq_some_iff.1 ho).1
        have hl : List.range ops.size = 0 :: (List.range ops.size).drop 1 := by
          obtain ⟨n, hn⟩ : ∃ n, ops.size = n + 1 := ⟨ops.size - 1, by omega⟩
          rw [hn, List.range_succ_eq_map]
          rfl
        rw [hl]
        refine ops_one ho hg ?_
        have hrun : (execOp act.eval o).run E.P w = .ok (.value (.map (some w.heap.size))) (w.alloc (.map #[] 0)) := by
          simp [execOp, hop, run_makeMap]
        refine wp_value hrun ?_
        have hb : Below w.heap.size w (w.alloc (.map #[] 0)) := (Below.refl _ w).alloc (Nat.le_refl _) _
        obtain ⟨n1, n2⟩ := h.grow hb
        have hat : (w.alloc (.map #[] 0)).heap[w.heap.size]? = some (.map #[] 0) := (MapKept.heap_alloc w _).1
        have hm : MapAt E.P X s mu ka act (w.alloc (.map #[] 0)) w.heap.size [] [] := by
          refine ⟨h.size, fun i ob hi hf hlive => ?_, ⟨_, _, hat, rfl⟩, fun m hm => by cases hm⟩
          rcases h.obs i ob hf with ⟨b', hb', ho'⟩ | ⟨hn, _⟩
          · rw [hi] at hb'
            cases hb'
            have := live_lt ho' hlive
            exact absurd this (Nat.lt_irrefl _)
          · rw [hi] at hn
            cases hn
        rw [hdst]
        refine evM_sound _ _ _ _ r hr _ _ (put_rel n2 (some d) (by simp only [VA, VP])) (hm.hold hlt') hdf ?_
        exact fun act' w' q1 q2 q3 => hQ act' w' _ q1 q2 q3
    · simp [Tr.run] at hr
  · simp [Tr.run] at hr
theorem run_soundM (hE : E.Ok) (hm : E.P.follows .mixedOrders = true) {n f : Nat} {ps : List PV} {r : Res} (hr : (evResM E n f ps).run = some r) {w : World} {S : Nat → Nat → Prop} {vs : List Value} (hS : ∀ b o, S b o → b < w.heap.size) (hv : VPs E.P w S ps vs) :
    Calls E.P f vs.toArray w fun e w' => ∃ v, e = .returned v ∧ Below w.heap.size w w' ∧ ResRel E.P S w w' r v := by
  unfold evResM at hr
  cases hf : E.P.funcs[f]? with
  | none => rw [hf] at hr; simp [Tr.run] at hr
  | some fn =>
    rw [hf] at hr
    simp only at hr
    split at hr
    · rename_i ca cb i1 m i2 l rest hb
      refine calls_of_wp hf hb ?_
      obtain ⟨ra, h1, hr1⟩ := tr_bind hr
      clear hr
      have hst := iso_rel hS hv fn.ntmps 0 1 f
      refine wp_seq (code_sound hE hm n ca _ ra.1 ra.2 (show _ = some (ra.1, ra.2) from h1) (outOf w S hS) (fun _ => none) (fun _ => 0) [] _ w ?_ rfl _ ?_)
      · show Rel E.P ⟨w.heap.size, w, S, hS, Nat.le_refl _⟩ _ _ _ _ _ w
        simpa using hst
      · intro mu1 ka1 act1 w1 hrel1 hd1
        cases hqa : ra.1 <;> rw [hqa] at hr1 <;> simp only at hr1
        case normal =>
          obtain ⟨rb, h2, hr2⟩ := tr_bind hr1
          refine wp_seq (code_sound hE hm n cb _ rb.1 rb.2 (show _ = some (rb.1, rb.2) from h2) (outOf w S hS) mu1 ka1 [] act1 w1 hrel1 hd1 _ ?_)
          intro mu2 ka2 act2 w2 hrel2 hd2
          cases hqb : rb.1 <;> rw [hqb] at hr2 <;> simp only at hr2
          case normal =>
            obtain ⟨x, h3, hr3⟩ := tr_bind hr2
            obtain ⟨y, h4, hr4⟩ := tr_bind hr3
            refine wp_seq (evMake_sound h3 hrel2 hd2 ?_)
            intro act3 w3 b hrel3 hm3 hd3
            refine wp_seq (wp_region (evM_sound _ _ _ _ y h4 act3 w3 hrel3 hm3 hd3 ?_))
            intro act4 w4 hrel4 hm4 hd4
            refine rest_sound hE hm hr4 hS hrel4 hd4 ?_
            intro v w' q1 q2
            exact ⟨v, rfl, q1, q2⟩
          all_goals simp [Tr.run] at hr2
        all_goals simp [Tr.run] at hr1
    · simp [Tr.run] at hr
end
theorem spec_fitM {P : Program} {f : Nat} (n : Nat) (rs : List PK) (ts : List PK) (pre : List PV → Bool) (res : List PV → Res) (hm : P.follows .mixedOrders = true)
    (h : ∀ ps, Meant P ps → okPs ts ps = true → pre ps = true → ∃ (E : Env) (r : Res), E.P = P ∧ E.Ok ∧ (evFit rs (evResM E n f (canPs ts ps))).run = some r ∧ (r = res ps ∨ r.plain = res ps)) : Spec P f ⟨fun ps => okPs ts ps && pre ps, res⟩ := by
  intro w S ps vs hS hv hp
  have hp' : (okPs ts ps && pre ps) = true := hp
  simp only [Bool.and_eq_true] at hp'
  obtain ⟨E, r, rfl, h2, h3, h4⟩ := h ps ⟨w, S, vs, hv⟩ hp'.1 hp'.2
  rw [okPs_can hp'.1] at h3
  unfold evFit at h3
  obtain ⟨r0, h5, h6⟩ := tr_bind h3
  simp only [Tr.run, Option.some.injEq] at h6
  refine Calls.mono (run_soundM h2 hm h5 hS hv) ?_
  rintro e w' ⟨v, g1, g2, g3⟩
  refine ⟨v, g1, g2, ?_⟩
  have g4 : ResRel E.P S w w' r v := by
    rw [← h6]
    exact g3.fit
  rcases h4 with rfl | h4
  · exact g4
  · show ResRel E.P S w w' (res ps) v
    rw [← h4]
    exact g4.plain hS
end Go.Proofs.YtjoebchkchoomaaS
