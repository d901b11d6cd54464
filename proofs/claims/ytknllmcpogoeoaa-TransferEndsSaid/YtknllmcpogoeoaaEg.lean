/- The engine's laws for regions that draw, where every world is known to meet some S. -/
import Derived.Test.YtknllmcpogoeoaaEn
namespace Go.Proofs.Ytknllmcpogoeoaa
open Go.RowKit
set_option linter.unusedVariables false
set_option linter.unusedSimpArgs false
section
variable {P : Program} {a : Act} {N : Nat} {l : List (Nat × Value)} {w w' : World} {o o2 : Oper} {v : Value} {Q : Exit → Act → World → Prop} {R : Act → World → Prop} {ops : Array Oper} {lo : List Oper} {d i fuel : Nat} {listed : Array Bool} {md : Region.Mode} {S : World → Prop}
theorem g_start {id : Nat} (S : World → Prop) (hm : P.follows .mixedOrders = true)
    (h : ∀ R : Act → World → Prop, Shut (∀ a w, Q .normal a w → R a w) → wpAnyH P .any lo.toArray (OnlyN R) S lo.length (Array.replicate lo.length false) a w.drew) : (Code.region id lo.toArray true).wp P Q a w := by
  refine Code.wp_mono onlyN_imp (wp_region_held (S := S) hm ?_)
  have := h (fun a w => Q .normal a w) (fun _ _ h => h)
  simpa using this
theorem g_take (i : Nat) (H : Has a N l) (hi : ops[i]? = some o) (hw : Region.wanted o (yielded ops a.tmps) = true) (hd : o.dst = some d) (hdN : d < N) (hs : Region.noSelect ops = true) (hf : Region.free md ops listed i = true) (hr : (Region.ready md ops listed).contains i = true)
    (hS : S w) (hy : ∀ w', S w' → (execOp a.eval o).run P w' = .ok (.value v) w')
    (k : ∀ a, Has a N ((d, v) :: l) → wpAnyH P md ops (OnlyN R) S fuel (listed.setIfInBounds i true) a w) : wpAnyH P md ops (OnlyN R) S (fuel + 1) listed a w := by
  refine wpAnyH_take hi hs hf hr (fun _ _ _ h => h) (Or.inl ⟨hw, hy⟩) hS ?_
  rw [hd]
  exact k _ (H.put hdN)
theorem g_skip (i : Nat) (H : Has a N l) (hi : ops[i]? = some o) (hw : Region.wanted o (yielded ops a.tmps) = false) (hd : o.dst = some d) (hdN : d < N) (hs : Region.noSelect ops = true) (hf : Region.free md ops listed i = true) (hr : (Region.ready md ops listed).contains i = true)
    (hS : S w) (k : ∀ a, Has a N ((d, undef) :: l) → wpAnyH P md ops (OnlyN R) S fuel (listed.setIfInBounds i true) a w) : wpAnyH P md ops (OnlyN R) S (fuel + 1) listed a w := by
  refine wpAnyH_take hi hs hf hr (fun _ _ _ h => h) (Or.inr ⟨hw, rfl⟩) hS ?_
  rw [hd]
  exact k _ (H.put hdN)
theorem g_op (i : Nat) (H : Has a N l) (hi : ops[i]? = some o) (hr : Region.ready md ops listed = [i]) (hw : Region.wanted o (yielded ops a.tmps) = true) (hd : o.dst = some d) (hdN : d < N)
    (hy : (execOp a.eval o).run P w = .ok (.value v) w') (hE : S w')
    (k : ∀ a, Has a N ((d, v) :: l) → wpAnyH P md ops (OnlyN R) S fuel (listed.setIfInBounds i true) a w') : wpAnyH P md ops (OnlyN R) S (fuel + 1) listed a w := by
  refine wpAnyH_ready hr (by simp) (AllReadyH.cons hi (fun K hK => ?_) AllReadyH.nil)
  rw [if_pos hw]
  unfold Oper.wp
  rw [hy, Oper.upon_value, hd]
  exact hK.out _ _ hE (fun _ => k _ (H.put hdN))
theorem g_st (i : Nat) (H : Has a N l) (hi : ops[i]? = some o) (hr : Region.ready md ops listed = [i]) (hw : Region.wanted o (yielded ops a.tmps) = true) (hd : o.dst = none)
    (hy : (execOp a.eval o).run P w = .ok .skip w') (hE : S w')
    (k : wpAnyH P md ops (OnlyN R) S fuel (listed.setIfInBounds i true) a w') : wpAnyH P md ops (OnlyN R) S (fuel + 1) listed a w := by
  refine wpAnyH_ready hr (by simp) (AllReadyH.cons hi (fun K hK => ?_) AllReadyH.nil)
  rw [if_pos hw]
  unfold Oper.wp
  rw [hy, Oper.upon_skip, hd]
  exact hK.out _ _ hE (fun _ => k)
theorem g_call (i : Nat) (H : Has a N l) (hi : ops[i]? = some o) (hr : Region.ready md ops listed = [i]) (hw : Region.wanted o (yielded ops a.tmps) = true) (hd : o.dst = some d) (hdN : d < N) {f : FuncId} {xs : List Operand} {ts : Array TypeId} {vs : List Value}
    (ho : o.op = .call { callee := .value (.func f), args := xs.toArray, argTypes := ts }) (he : evs l xs = some vs) (hent : ∀ w, (callFunc f vs.toArray).run P w = .ok (.enter f vs.toArray) w)
    {T : Ending → World → Prop} (C : Calls P f vs.toArray w T)
    (k : ∀ e w', T e w' → ∃ v, e = .returned v ∧ S w' ∧ ∀ a, Has a N ((d, v) :: l) → wpAnyH P md ops (OnlyN R) S fuel (listed.setIfInBounds i true) a w') : wpAnyH P md ops (OnlyN R) S (fuel + 1) listed a w := by
  refine wpAnyH_ready hr (by simp) (AllReadyH.cons hi (fun K hK => ?_) AllReadyH.nil)
  rw [if_pos hw]
  unfold Oper.wp
  rw [run_call H ho he (hent w), Oper.upon_enter]
  refine C.mono ?_
  intro e w1 hS
  obtain ⟨v, rfl, hE, h⟩ := k e w1 hS
  rw [hd]
  exact hK.out _ _ hE (fun _ => h _ (H.put hdN))
theorem g_two (i j : Nat) (H : Has a N l) {d2 : Nat} {v2 : Value} {w2 : World} (hr : Region.ready md ops listed = [i, j])
    (hi : ops[i]? = some o) (hw : Region.wanted o (yielded ops a.tmps) = true) (hd : o.dst = some d) (hdN : d < N) (hy : (execOp a.eval o).run P w = .ok (.value v) w') (hE : S w')
    (hj : ops[j]? = some o2) (hw2 : Region.wanted o2 (yielded ops a.tmps) = true) (hd2 : o2.dst = some d2) (hdN2 : d2 < N) (hy2 : (execOp a.eval o2).run P w = .ok (.value v2) w2) (hE2 : S w2)
    (k : ∀ a, Has a N ((d, v) :: l) → wpAnyH P md ops (OnlyN R) S fuel (listed.setIfInBounds i true) a w')
    (k2 : ∀ a, Has a N ((d2, v2) :: l) → wpAnyH P md ops (OnlyN R) S fuel (listed.setIfInBounds j true) a w2) : wpAnyH P md ops (OnlyN R) S (fuel + 1) listed a w := by
  refine wpAnyH_ready hr (by simp) (AllReadyH.cons hi (fun K hK => ?_) (AllReadyH.cons hj (fun K hK => ?_) AllReadyH.nil))
  · rw [if_pos hw]; unfold Oper.wp; rw [hy, Oper.upon_value, hd]; exact hK.out _ _ hE (fun _ => k _ (H.put hdN))
  · rw [if_pos hw2]; unfold Oper.wp; rw [hy2, Oper.upon_value, hd2]; exact hK.out _ _ hE2 (fun _ => k2 _ (H.put hdN2))
/-- a plain operation, or a call behind it in number -/
theorem g_twoc (i j : Nat) (H : Has a N l) {d2 : Nat} (hr : Region.ready md ops listed = [i, j])
    (hi : ops[i]? = some o) (hw : Region.wanted o (yielded ops a.tmps) = true) (hd : o.dst = some d) (hdN : d < N) (hy : (execOp a.eval o).run P w = .ok (.value v) w') (hE : S w')
    (hj : ops[j]? = some o2) (hw2 : Region.wanted o2 (yielded ops a.tmps) = true) (hd2 : o2.dst = some d2) (hdN2 : d2 < N) {f : FuncId} {xs : List Operand} {ts : Array TypeId} {vs : List Value}
    (ho : o2.op = .call { callee := .value (.func f), args := xs.toArray, argTypes := ts }) (he : evs l xs = some vs) (hent : ∀ w, (callFunc f vs.toArray).run P w = .ok (.enter f vs.toArray) w)
    {T : Ending → World → Prop} (C : Calls P f vs.toArray w T)
    (k : ∀ a, Has a N ((d, v) :: l) → wpAnyH P md ops (OnlyN R) S fuel (listed.setIfInBounds i true) a w')
    (k2 : ∀ e w', T e w' → ∃ v, e = .returned v ∧ S w' ∧ ∀ a, Has a N ((d2, v) :: l) → wpAnyH P md ops (OnlyN R) S fuel (listed.setIfInBounds j true) a w') : wpAnyH P md ops (OnlyN R) S (fuel + 1) listed a w := by
  refine wpAnyH_ready hr (by simp) (AllReadyH.cons hi (fun K hK => ?_) (AllReadyH.cons hj (fun K hK => ?_) AllReadyH.nil))
  · rw [if_pos hw]; unfold Oper.wp; rw [hy, Oper.upon_value, hd]; exact hK.out _ _ hE (fun _ => k _ (H.put hdN))
  · rw [if_pos hw2]
    unfold Oper.wp
    rw [run_call H ho he (hent w), Oper.upon_enter]
    refine C.mono ?_
    intro e w1 hS
    obtain ⟨v, rfl, hE, h⟩ := k2 e w1 hS
    rw [hd2]
    exact hK.out _ _ hE (fun _ => h _ (H.put hdN2))
theorem g_done (hr : Region.ready md ops listed = []) (h : R a w) : wpAnyH P md ops (OnlyN R) S fuel listed a w := wpAnyH_done hr h fuel
end
end Go.Proofs.Ytknllmcpogoeoaa
