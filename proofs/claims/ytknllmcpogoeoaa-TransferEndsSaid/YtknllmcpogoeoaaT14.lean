/- Laws for a region that draws its order and ends with one store that waits for all: what is asked of every world is not asked behind that store. -/
import Derived.Test.YtknllmcpogoeoaaT13
namespace Go.Proofs.Ytknllmcpogoeoaa
open Go.RowKit
set_option linter.unusedVariables false
set_option linter.unusedSimpArgs false
section
variable {P : Program} {ops : Array Oper} {Q : Exit → Act → World → Prop} {md : Region.Mode} {S : World → Prop} {m : Nat}
/-- whatever order is picked; S holds behind every operation but number m -/
def wpAnyX (P : Program) (md : Region.Mode) (ops : Array Oper) (Q : Exit → Act → World → Prop) (S : World → Prop) (m : Nat) : Nat → Array Bool → Act → World → Prop
  | 0, listed, a, w => Region.ready md ops listed = [] ∧ Q .normal a w
  | fuel + 1, listed, a, w =>
    (Region.ready md ops listed = [] → Q .normal a w) ∧
    ∀ i ∈ Region.ready md ops listed, wpOp P ops Q i (fun a' w' => (i = m ∨ S w') ∧ wpAnyX P md ops Q S m fuel (listed.setIfInBounds i true) a' w') a w
theorem wpAny_of_heldX : ∀ (fuel : Nat) (listed : Array Bool) (a : Act) (w : World), wpAnyX P md ops Q S m fuel listed a w → wpAny P md ops Q fuel listed a w
  | 0, _, _, _, h => h
  | fuel + 1, _, _, _, h => ⟨h.1, fun i hi => wpOp_mono (fun a' w' h' => wpAny_of_heldX fuel _ a' w' h'.2) (h.2 i hi)⟩
theorem wpAnyX_first {i : Nat} {oi om : Oper} {v : Value} (hi : ops[i]? = some oi) (hm : ops[m]? = some om) (him : ∃ e ∈ om.after, Region.binds md e = true ∧ e.on = i) (hne : i ≠ m) (hsel : ∀ (j : Nat) (o : Oper) cs b, ops[j]? = some o → o.op ≠ .select cs b)
    (hQ : ∀ c a w, Q (.panic c) (a.put oi.dst v) w → Q (.panic c) a w) :
    ∀ (fuel : Nat) (listed : Array Bool) (a : Act) (w : World),
      (∀ j oj, ops[j]? = some oj → j ≠ i → listed.getD j true = false → (∀ e ∈ oj.after, Region.binds md e = true → e.on ≠ i) → oi.apart ops oj = true) →
      i ∈ Region.ready md ops listed → YieldsIf P ops S oi v a → S w →
      wpAnyX P md ops Q S m fuel (listed.setIfInBounds i true) (a.put oi.dst v) w → wpAnyX P md ops Q S m (fuel + 1) listed a w := by
  intro fuel
  induction fuel with
  | zero =>
    intro listed a w _ hr hy hS H
    refine ⟨fun h => (by rw [h] at hr; cases hr), fun j hj => ?_⟩
    by_cases hji : j = i
    · subst hji; exact hy.wpOp hi hS ⟨.inr hS, H⟩
    · have := ready_mono hj hji
      rw [H.1] at this
      cases this
  | succ fuel ih =>
    intro listed a w hfree hr hy hS H
    refine ⟨fun h => (by rw [h] at hr; cases hr), fun j hj => ?_⟩
    by_cases hji : j = i
    · subst hji; exact hy.wpOp hi hS ⟨.inr hS, H⟩
    · have h1 := H.2 j (ready_mono hj hji)
      obtain ⟨hjun, oj, hoj, hall⟩ := mem_ready.1 hj
      have hi0 : listed.getD i false = true → False := fun h1 => by
        have h0 := (mem_ready.1 hr).1
        rcases Nat.lt_or_ge i listed.size with h' | h'
        · simp [h'] at h0 h1; rw [h0] at h1; cases h1
        · simp [Array.getElem?_eq_none h'] at h1
      have hnot : ∀ e ∈ oj.after, Region.binds md e = true → e.on ≠ i := fun e he hb heq => by
        have h1 := hall e he hb
        rw [heq] at h1
        exact hi0 h1
      have hjm : j ≠ m := fun e => by
        subst e
        rw [hoj] at hm
        cases hm
        obtain ⟨e, he, hb, heq⟩ := him
        exact hnot e he hb heq
      have h2 := wpOp_putIf hoj (hfree j oj hoj hji hjun hnot) (fun cs b => hsel i oi cs b hi) (fun cs b => hsel j oj cs b hoj) hQ hy h1
      have hfree' : ∀ k ok, ops[k]? = some ok → k ≠ i → (listed.setIfInBounds j true).getD k true = false →
          (∀ e ∈ ok.after, Region.binds md e = true → e.on ≠ i) → oi.apart ops ok = true := fun k ok hk hki hun hno => by
        refine hfree k ok hk hki ?_ hno
        by_cases hjk : j = k
        · subst hjk; exact hjun
        · rw [getD_set_ne true hjk] at hun; exact hun
      refine wpOp_mono (fun a' w' h3 => ?_) h2
      have hS' : S w' := h3.2.1.resolve_left hjm
      refine ⟨.inr hS', ih (listed.setIfInBounds j true) a' w' hfree' (ready_mono hr (Ne.symm hji)) h3.1 hS' ?_⟩
      rw [Array.setIfInBounds_comm _ _ hji]
      exact h3.2.2
theorem wpAnyX_one {i : Nat} {o : Oper} {fuel : Nat} {listed : Array Bool} {a : Act} {w : World} (hr : Region.ready md ops listed = [i]) (ho : ops[i]? = some o)
    (h : ∀ K' : Act → World → Prop, Shut (∀ a w, (i = m ∨ S w) → wpAnyX P md ops Q S m fuel (listed.setIfInBounds i true) a w → K' a w) → if Region.wanted o (yielded ops a.tmps) = true then Oper.wp P o a w K' Q else K' (a.put o.dst undef) w) :
    wpAnyX P md ops Q S m (fuel + 1) listed a w := by
  refine ⟨fun h0 => absurd (hr ▸ h0) (by simp), fun j hj => ?_⟩
  rw [hr, List.mem_singleton] at hj
  subst hj
  exact wpOp_step ho (fun K' hK => h K' (fun a w hS hW => hK a w ⟨hS, hW⟩))
end
section
variable {P : Program} {a : Act} {N : Nat} {l : List (Nat × Value)} {w w' : World} {o om : Oper} {v : Value} {Q : Exit → Act → World → Prop} {R : Act → World → Prop} {ops : Array Oper} {lo : List Oper} {d i fuel m : Nat} {listed : Array Bool} {md : Region.Mode} {S : World → Prop}
theorem y_start {id : Nat} (S : World → Prop) (m : Nat) (hm : P.follows .mixedOrders = true)
    (h : ∀ R : Act → World → Prop, Shut (∀ a w, Q .normal a w → R a w) → wpAnyX P .any lo.toArray (OnlyN R) S m lo.length (Array.replicate lo.length false) a w.drew) : (Code.region id lo.toArray true).wp P Q a w := by
  refine Code.wp_mono onlyN_imp (wp_region_any hm (wpAny_of_heldX (S := S) (m := m) _ _ _ _ ?_))
  have := h (fun a w => Q .normal a w) (fun _ _ h => h)
  simpa using this
theorem y_take (i : Nat) (H : Has a N l) (hi : ops[i]? = some o) (hw : Region.wanted o (yielded ops a.tmps) = true) (hd : o.dst = some d) (hdN : d < N) (hs : Region.noSelect ops = true) (hf : Region.free md ops listed i = true) (hr : (Region.ready md ops listed).contains i = true)
    (hm : ops[m]? = some om) (him : (om.after.any fun e => Region.binds md e && (e.on == i)) = true) (hne : i ≠ m)
    (hS : S w) (hy : ∀ w', S w' → (execOp a.eval o).run P w' = .ok (.value v) w')
    (k : ∀ a, Has a N ((d, v) :: l) → wpAnyX P md ops (OnlyN R) S m fuel (listed.setIfInBounds i true) a w) : wpAnyX P md ops (OnlyN R) S m (fuel + 1) listed a w := by
  refine wpAnyX_first (v := v) hi hm ?_ hne (Region.noSelect_spec hs) (fun _ _ _ h => h) fuel listed a w (Region.free_spec hi hf) (by simpa using hr) (.inl ⟨hw, hy⟩) hS ?_
  · obtain ⟨j, hj, hb⟩ := Array.any_eq_true.1 him
    rw [Bool.and_eq_true, beq_iff_eq] at hb
    exact ⟨om.after[j], Array.getElem_mem hj, hb.1, hb.2⟩
  · rw [hd]
    exact k _ (H.put hdN)
theorem y_op (i : Nat) (H : Has a N l) (hi : ops[i]? = some o) (hr : Region.ready md ops listed = [i]) (hw : Region.wanted o (yielded ops a.tmps) = true) (hd : o.dst = some d) (hdN : d < N)
    (hy : (execOp a.eval o).run P w = .ok (.value v) w') (hE : S w')
    (k : ∀ a, Has a N ((d, v) :: l) → wpAnyX P md ops (OnlyN R) S m fuel (listed.setIfInBounds i true) a w') : wpAnyX P md ops (OnlyN R) S m (fuel + 1) listed a w := by
  refine wpAnyX_one hr hi (fun K hK => ?_)
  rw [if_pos hw]
  unfold Oper.wp
  rw [hy, Oper.upon_value, hd]
  exact hK.out _ _ (.inr hE) (k _ (H.put hdN))
theorem y_last (H : Has a N l) (hi : ops[m]? = some o) (hr : Region.ready md ops listed = [m]) (hw : Region.wanted o (yielded ops a.tmps) = true) (hd : o.dst = none)
    (hy : (execOp a.eval o).run P w = .ok .skip w')
    (k : wpAnyX P md ops (OnlyN R) S m fuel (listed.setIfInBounds m true) a w') : wpAnyX P md ops (OnlyN R) S m (fuel + 1) listed a w := by
  refine wpAnyX_one hr hi (fun K hK => ?_)
  rw [if_pos hw]
  unfold Oper.wp
  rw [hy, Oper.upon_skip, hd]
  exact hK.out _ _ (.inl rfl) k
theorem y_call (i : Nat) (H : Has a N l) (hi : ops[i]? = some o) (hr : Region.ready md ops listed = [i]) (hw : Region.wanted o (yielded ops a.tmps) = true) (hd : o.dst = some d) (hdN : d < N) {f : FuncId} {xs : List Operand} {ts : Array TypeId} {vs : List Value}
    (ho : o.op = .call { callee := .value (.func f), args := xs.toArray, argTypes := ts }) (he : evs l xs = some vs) (hent : ∀ w, (callFunc f vs.toArray).run P w = .ok (.enter f vs.toArray) w)
    {T : Ending → World → Prop} (C : Calls P f vs.toArray w T)
    (k : ∀ e w', T e w' → ∃ v, e = .returned v ∧ S w' ∧ ∀ a, Has a N ((d, v) :: l) → wpAnyX P md ops (OnlyN R) S m fuel (listed.setIfInBounds i true) a w') : wpAnyX P md ops (OnlyN R) S m (fuel + 1) listed a w := by
  refine wpAnyX_one hr hi (fun K hK => ?_)
  rw [if_pos hw]
  unfold Oper.wp
  rw [run_call H ho he (hent w), Oper.upon_enter]
  refine C.mono ?_
  intro e w1 hT
  obtain ⟨v, rfl, hE, h⟩ := k e w1 hT
  rw [hd]
  exact hK.out _ _ (.inr hE) (h _ (H.put hdN))
theorem y_done (hr : Region.ready md ops listed = []) (h : R a w) : wpAnyX P md ops (OnlyN R) S m fuel listed a w := by
  cases fuel with
  | zero => exact ⟨hr, h⟩
  | succ n => exact ⟨fun _ => h, by rw [hr]; simp⟩
end
theorem b_eqlB {P : Program} {w : World} {t : TypeId} {x y c : Bool} (hu : P.underlying t = some .bool) (h : (x == y) = c) : (binOp .eql t (.bool x) (.bool y)).run P w = .ok (.bool c) w := by subst h; exact run_eql_bool w t x y hu
theorem b_neqB {P : Program} {w : World} {t : TypeId} {x y c : Bool} (hu : P.underlying t = some .bool) (h : (!(x == y)) = c) : (binOp .neq t (.bool x) (.bool y)).run P w = .ok (.bool c) w := by subst h; exact run_neq_bool w t x y hu
end Go.Proofs.Ytknllmcpogoeoaa
