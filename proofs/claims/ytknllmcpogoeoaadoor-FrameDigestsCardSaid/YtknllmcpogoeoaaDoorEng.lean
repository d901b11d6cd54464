/- A walk over a frame that is not written out: what is known of its temporaries stands in a list. Each step costs the same, however many temporaries there are. -/
import Derived.WalkKit
import Derived.Deep.QuietTactic
import Derived.Deep.RegionHeld3
import Derived.StillTailTactics
import Derived.Deep.LoopGhost
import Derived.Lib.Hide
namespace Go.Proofs.YtknllmcpogoeoaaDoor
open Go.RowKit
set_option linter.unusedVariables false
set_option linter.unusedSimpArgs false
/-- the first entry of a list of numbered values -/
def lk : List (Nat × Value) → Nat → Option Value
  | [], _ => none
  | (k, v) :: r, d => bif Nat.beq k d then some v else lk r d
/-- what is known of a frame -/
structure Has (a : Act) (N : Nat) (l : List (Nat × Value)) : Prop where
  size : a.tmps.size = N
  nod : a.defers = []
  at_ : ∀ d v, lk l d = some v → a.tmps[d]? = some v
def ev (l : List (Nat × Value)) : Operand → Option Value
  | .tmp t => lk l t
  | .const v => some v
  | .global g => some (.pointer (some ⟨g, 0, none⟩))
  | .func f => some (.func (.func f) #[] #[])
section
variable {P : Program} {a : Act} {N : Nat} {l l' : List (Nat × Value)} {w w' : World}
theorem Has.ev (H : Has a N l) {x : Operand} {v : Value} (e : ev l x = some v) : a.eval x = v := by
  cases x with
  | tmp t =>
    have h := H.at_ t v e
    simp [Act.eval, h]
  | const u => simpa [Proofs.YtknllmcpogoeoaaDoor.ev, Act.eval] using e
  | global g => simpa [Proofs.YtknllmcpogoeoaaDoor.ev, Act.eval] using e
  | func f => simpa [Proofs.YtknllmcpogoeoaaDoor.ev, Act.eval] using e
theorem beq_nat {m n : Nat} : Nat.beq m n = decide (m = n) := by
  by_cases h : m = n
  · subst h; simp
  · rw [decide_eq_false h]
    cases hb : Nat.beq m n with
    | false => rfl
    | true => exact absurd (Nat.eq_of_beq_eq_true hb) h
theorem Has.put (H : Has a N l) {d : Nat} {v : Value} (hd : d < N) : Has (a.put (some d) v) N ((d, v) :: l) := by
  refine ⟨by simp [Act.put, H.size], by simp [Act.put, H.nod], fun k u h => ?_⟩
  simp only [lk, beq_nat] at h
  by_cases hk : d = k
  · subst hk
    rw [decide_eq_true rfl] at h
    simp only [cond_true, Option.some.injEq] at h
    subst h
    simp [Act.put, H.size, hd]
  · rw [decide_eq_false hk] at h
    simp only [cond_false] at h
    have := H.at_ k u h
    simp only [Act.put]
    rw [Array.getElem?_setIfInBounds_ne hk]
    exact this
/-- every entry of the second list is what the first says -/
def subl (l : List (Nat × Value)) : List (Nat × Value) → Prop
  | [] => True
  | (d, v) :: r => lk l d = some v ∧ subl l r
theorem lk_subl : ∀ (r : List (Nat × Value)), subl l r → ∀ d v, lk r d = some v → lk l d = some v
  | [], _, d, v, h => by cases h
  | (k, u) :: r, hs, d, v, h => by
    simp only [lk, beq_nat] at h
    by_cases hk : k = d
    · subst hk
      rw [decide_eq_true rfl] at h
      simp only [cond_true, Option.some.injEq] at h
      subst h
      exact hs.1
    · rw [decide_eq_false hk] at h
      exact lk_subl r hs.2 d v h
theorem Has.sub (H : Has a N l) (h : subl l l') : Has a N l' := ⟨H.size, H.nod, fun d v e => H.at_ d v (lk_subl l' h d v e)⟩
/-- the arguments as a list -/
def argl : Nat → List Value → List (Nat × Value)
  | _, [] => []
  | i, v :: r => (i, v) :: argl (i + 1) r
theorem lk_argl : ∀ (r : List Value) (i d : Nat) (v : Value), lk (argl i r) d = some v → i ≤ d ∧ r[d - i]? = some v
  | [], i, d, v, h => by cases h
  | u :: r, i, d, v, h => by
    simp only [argl, lk, beq_nat] at h
    by_cases hk : i = d
    · subst hk
      rw [decide_eq_true rfl] at h
      simp only [cond_true, Option.some.injEq] at h
      subst h
      simp
    · rw [decide_eq_false hk] at h
      obtain ⟨h1, h2⟩ := lk_argl r (i + 1) d v h
      refine ⟨by omega, ?_⟩
      obtain ⟨m, rfl⟩ : ∃ m, d = i + 1 + m := ⟨d - (i + 1), by omega⟩
      rw [show i + 1 + m - (i + 1) = m by omega] at h2
      rw [show i + 1 + m - i = m + 1 by omega]
      simpa using h2
theorem calls_has {f : FuncId} {fn : Func} {c : Code} {args : List Value} {R : Ending → World → Prop} (hf : P.funcs[f]? = some fn) (hb : fn.body = some c) (hN : fn.ntmps = N) (hn : args.length ≤ N)
    (h : ∀ a, Has a N (argl 0 args) → c.wp P (bodyPost P fn R) a w) : Calls P f args.toArray w R := by
  refine calls_of_wp hf hb (h _ ⟨?_, rfl, ?_⟩)
  · simp [hN]; omega
  · intro d v hd
    obtain ⟨_, h2⟩ := lk_argl args 0 d v hd
    rw [Nat.sub_zero] at h2
    have hlt : d < args.length := (List.getElem?_eq_some_iff.1 h2).1
    simp [Array.getElem?_append, hlt] at h2 ⊢
    exact h2
/-! Regions: only the normal way out is of interest, and it stands behind a variable. -/
def OnlyN (R : Act → World → Prop) : Exit → Act → World → Prop
  | .normal, a, w => R a w
  | _, _, _ => False
variable {Q : Exit → Act → World → Prop} {R : Act → World → Prop} {ops : Array Oper} {lo rest : List Oper} {o : Oper} {d : Nat} {v : Value}
theorem onlyN_imp {Q : Exit → Act → World → Prop} : ∀ e a w, OnlyN (fun a w => Q .normal a w) e a w → Q e a w := fun e a w h => by
  cases e with
  | normal => exact h
  | _ => exact (h : False).elim
theorem e_region {id : Nat} (h : ∀ R : Act → World → Prop, Shut (∀ a w, Q .normal a w → R a w) → wpList P lo.toArray (OnlyN R) lo a w) : (Code.region id lo.toArray false).wp P Q a w :=
  Code.wp_mono onlyN_imp (wp_region_lit (h _ (fun _ _ h => h)))
theorem e_nil (h : R a w) : wpList P ops (OnlyN R) [] a w := h
theorem e_op (H : Has a N l) (hg : o.guard = none) (hd : o.dst = some d) (hdN : d < N) (hr : (execOp a.eval o).run P w = .ok (.value v) w')
    (k : ∀ a, Has a N ((d, v) :: l) → wpList P ops Q rest a w') : wpList P ops Q (o :: rest) a w := by
  refine wpList_plain hg fun K hK => ?_
  unfold Oper.wp
  rw [hr, Oper.upon_value, hd]
  exact hK _ _ (k _ (H.put hdN))
/-- an operation that writes memory and yields nothing -/
theorem e_st (H : Has a N l) (hg : o.guard = none) (hd : o.dst = none) (hr : (execOp a.eval o).run P w = .ok .skip w')
    (k : wpList P ops Q rest a w') : wpList P ops Q (o :: rest) a w := by
  refine wpList_plain hg fun K hK => ?_
  unfold Oper.wp
  rw [hr, Oper.upon_skip, hd]
  exact hK _ _ k
theorem wanted_true (H : Has a N l) {j : Nat} {b : Bool} {oj : Oper} (hg : o.guard = some (j, b)) (hj : ops[j]? = some oj) (hd : oj.dst = some d) (hv : lk l d = some (.bool b)) : Region.wanted o (yielded ops a.tmps) = true := by
  simp [Region.wanted, hg, yielded, hj, hd, H.at_ d _ hv]
theorem wanted_false (H : Has a N l) {j : Nat} {b : Bool} {oj : Oper} (hg : o.guard = some (j, b)) (hj : ops[j]? = some oj) (hd : oj.dst = some d) (hv : lk l d = some (.bool (!b))) : Region.wanted o (yielded ops a.tmps) = false := by
  simp [Region.wanted, hg, yielded, hj, hd, H.at_ d _ hv]
theorem wanted_undef (H : Has a N l) {j : Nat} {b : Bool} {oj : Oper} (hg : o.guard = some (j, b)) (hj : ops[j]? = some oj) (hd : oj.dst = some d) (hv : lk l d = some undef) : Region.wanted o (yielded ops a.tmps) = false := by
  simp [Region.wanted, hg, yielded, hj, hd, H.at_ d _ hv, undef]
theorem e_opg (H : Has a N l) (hw : Region.wanted o (yielded ops a.tmps) = true) (hd : o.dst = some d) (hdN : d < N) (hr : (execOp a.eval o).run P w = .ok (.value v) w')
    (k : ∀ a, Has a N ((d, v) :: l) → wpList P ops Q rest a w') : wpList P ops Q (o :: rest) a w := by
  refine wpList_step fun K hK => ?_
  rw [if_pos hw]
  unfold Oper.wp
  rw [hr, Oper.upon_value, hd]
  exact hK _ _ (k _ (H.put hdN))
theorem e_skip (H : Has a N l) (hw : Region.wanted o (yielded ops a.tmps) = false) (hd : o.dst = some d) (hdN : d < N) 
    (k : ∀ a, Has a N ((d, undef) :: l) → wpList P ops Q rest a w) : wpList P ops Q (o :: rest) a w := by
  refine wpList_skip hw ?_
  rw [hd]
  exact k _ (H.put hdN)
theorem enter_of {f : FuncId} {fn : Func} {args : Array Value} {w : World} (hf : P.funcs[f]? = some fn) (hnm : (fn.name == "runtime.NumGoroutine") = false) (hb : fn.body.isNone = false) : (callFunc f args).run P w = .ok (.enter f args) w := by
  unfold callFunc
  simp only [Sem.run_bind, run_program, Result.andThen_ok, hf, hnm, hb, Bool.false_eq_true, if_false, Sem.run_pure]
/-- the evaluated arguments -/
def evs (l : List (Nat × Value)) : List Operand → Option (List Value)
  | [] => some []
  | x :: r => match ev l x, evs l r with
    | some v, some vs => some (v :: vs)
    | _, _ => none
theorem Has.evs (H : Has a N l) : ∀ {xs : List Operand} {vs : List Value}, evs l xs = some vs → xs.map a.eval = vs
  | [], vs, e => by simp [Proofs.YtknllmcpogoeoaaDoor.evs] at e; simp [e]
  | x :: r, vs, e => by
    simp only [Proofs.YtknllmcpogoeoaaDoor.evs] at e
    cases h1 : Proofs.YtknllmcpogoeoaaDoor.ev l x with
    | none => simp [h1] at e
    | some u =>
      cases h2 : Proofs.YtknllmcpogoeoaaDoor.evs l r with
      | none => simp [h1, h2] at e
      | some us =>
        simp [h1, h2] at e
        subst e
        simp [H.ev h1, H.evs h2]
theorem run_call (H : Has a N l) {f : FuncId} {xs : List Operand} {ts : Array TypeId} {vs : List Value} (ho : o.op = .call { callee := .value (.func f), args := xs.toArray, argTypes := ts }) (he : evs l xs = some vs)
    (hent : (callFunc f vs.toArray).run P w = .ok (.enter f vs.toArray) w) : (execOp a.eval o).run P w = .ok (.enter f vs.toArray) w := by
  unfold execOp
  simp only [ho, resolve, Sem.run_bind, Act.eval, Deferred.ofValue, Sem.run_pure, Result.andThen_ok, invoke]
  have : (Array.map a.eval xs.toArray) = vs.toArray := by rw [List.map_toArray, H.evs he]
  rw [this]
  simpa using hent
theorem e_call (H : Has a N l) {f : FuncId} {xs : List Operand} {ts : Array TypeId} {vs : List Value} (hg : o.guard = none) (hd : o.dst = some d) (hdN : d < N)
    (ho : o.op = .call { callee := .value (.func f), args := xs.toArray, argTypes := ts }) (he : evs l xs = some vs) (hent : ∀ w, (callFunc f vs.toArray).run P w = .ok (.enter f vs.toArray) w)
    {S : Value → World → Prop} (C : Calls P f vs.toArray w (fun e w' => ∃ v, e = .returned v ∧ S v w'))
    (k : ∀ v w' a, S v w' → Has a N ((d, v) :: l) → wpList P ops Q rest a w') : wpList P ops Q (o :: rest) a w := by
  refine wpList_plain hg fun K hK => ?_
  unfold Oper.wp
  rw [run_call H ho he (hent w), Oper.upon_enter]
  refine C.mono ?_
  rintro e w1 ⟨v, rfl, hS⟩
  rw [hd]
  exact hK _ _ (k v w1 _ hS (H.put hdN))
/-- a call that leaves the world alone -/
theorem e_callp (H : Has a N l) {f : FuncId} {xs : List Operand} {ts : Array TypeId} {vs : List Value} (hg : o.guard = none) (hd : o.dst = some d) (hdN : d < N)
    (ho : o.op = .call { callee := .value (.func f), args := xs.toArray, argTypes := ts }) (he : evs l xs = some vs) (hent : ∀ w, (callFunc f vs.toArray).run P w = .ok (.enter f vs.toArray) w)
    (C : Calls P f vs.toArray w (fun e w' => e = .returned v ∧ w' = w))
    (k : ∀ a, Has a N ((d, v) :: l) → wpList P ops Q rest a w) : wpList P ops Q (o :: rest) a w := by
  refine e_call H hg hd hdN ho he hent (S := fun u w' => u = v ∧ w' = w) (C.mono fun e w2 h => ⟨v, h.1, rfl, h.2⟩) ?_
  rintro u w2 a2 ⟨rfl, rfl⟩ H2
  exact k a2 H2
/-- a call, its post as it comes -/
theorem e_callq (H : Has a N l) {f : FuncId} {xs : List Operand} {ts : Array TypeId} {vs : List Value} (hg : o.guard = none) (hd : o.dst = some d) (hdN : d < N)
    (ho : o.op = .call { callee := .value (.func f), args := xs.toArray, argTypes := ts }) (he : evs l xs = some vs) (hent : ∀ w, (callFunc f vs.toArray).run P w = .ok (.enter f vs.toArray) w)
    {S : Ending → World → Prop} (C : Calls P f vs.toArray w S)
    (k : ∀ e w', S e w' → ∃ v, e = .returned v ∧ ∀ a, Has a N ((d, v) :: l) → wpList P ops Q rest a w') : wpList P ops Q (o :: rest) a w := by
  refine wpList_plain hg fun K hK => ?_
  unfold Oper.wp
  rw [run_call H ho he (hent w), Oper.upon_enter]
  refine C.mono ?_
  intro e w1 hS
  obtain ⟨v, rfl, h⟩ := k e w1 hS
  rw [hd]
  exact hK _ _ (h _ (H.put hdN))
/-- a call without a result -/
theorem e_call0 (H : Has a N l) {f : FuncId} {xs : List Operand} {ts : Array TypeId} {vs : List Value} (hg : o.guard = none) (hd : o.dst = none)
    (ho : o.op = .call { callee := .value (.func f), args := xs.toArray, argTypes := ts }) (he : evs l xs = some vs) (hent : ∀ w, (callFunc f vs.toArray).run P w = .ok (.enter f vs.toArray) w)
    {S : Value → World → Prop} (C : Calls P f vs.toArray w (fun e w' => ∃ v, e = .returned v ∧ S v w'))
    (k : ∀ v w', S v w' → wpList P ops Q rest a w') : wpList P ops Q (o :: rest) a w := by
  refine wpList_plain hg fun K hK => ?_
  unfold Oper.wp
  rw [run_call H ho he (hent w), Oper.upon_enter]
  refine C.mono ?_
  rintro e w1 ⟨v, rfl, hS⟩
  rw [hd]
  exact hK _ _ (k v w1 hS)
/-! A region that draws its order, where all but the last operations read only. -/
theorem e_tail {id : Nat} (n : Nat) (hm : P.follows .mixedOrders = true) (hB : Region.lexTailB .any lo.toArray n = true)
    (h : ∀ R : Act → World → Prop, Shut (∀ a w, Q .normal a w → R a w) → wpStill P lo.toArray w.drew (fun a' => wpList P lo.toArray (OnlyN R) (lo.drop n) a' w.drew) (lo.take n) a) : (Code.region id lo.toArray true).wp P Q a w :=
  Code.wp_mono onlyN_imp (wp_region_still_tail n hm hB (h _ (fun _ _ h => h)))
variable {L : Act → Prop}
theorem s_op (H : Has a N l) (hg : o.guard = none) (hd : o.dst = some d) (hdN : d < N) (hr : (execOp a.eval o).run P w = .ok (.value v) w)
    (k : ∀ a, Has a N ((d, v) :: l) → wpStill P ops w L rest a) : wpStill P ops w L (o :: rest) a := by
  refine wpStill_step fun K hK => ?_
  simp only [Region.wanted, hg, if_true]
  unfold Oper.still
  rw [hr, Oper.stillUpon_value, hd]
  exact hK _ (k _ (H.put hdN))
theorem s_opg (H : Has a N l) (hw : Region.wanted o (yielded ops a.tmps) = true) (hd : o.dst = some d) (hdN : d < N) (hr : (execOp a.eval o).run P w = .ok (.value v) w)
    (k : ∀ a, Has a N ((d, v) :: l) → wpStill P ops w L rest a) : wpStill P ops w L (o :: rest) a := by
  refine wpStill_step fun K hK => ?_
  rw [if_pos hw]
  unfold Oper.still
  rw [hr, Oper.stillUpon_value, hd]
  exact hK _ (k _ (H.put hdN))
theorem s_skip (H : Has a N l) (hw : Region.wanted o (yielded ops a.tmps) = false) (hd : o.dst = some d) (hdN : d < N)
    (k : ∀ a, Has a N ((d, undef) :: l) → wpStill P ops w L rest a) : wpStill P ops w L (o :: rest) a := by
  refine wpStill_step fun K hK => ?_
  rw [if_neg (by rw [hw]; exact Bool.false_ne_true), hd]
  exact hK _ (k _ (H.put hdN))
theorem s_call (H : Has a N l) {f : FuncId} {xs : List Operand} {ts : Array TypeId} {vs : List Value} (hg : o.guard = none) (hd : o.dst = some d) (hdN : d < N)
    (ho : o.op = .call { callee := .value (.func f), args := xs.toArray, argTypes := ts }) (he : evs l xs = some vs) (hent : ∀ w, (callFunc f vs.toArray).run P w = .ok (.enter f vs.toArray) w)
    (C : Calls P f vs.toArray w (fun e w' => e = .returned v ∧ w' = w))
    (k : ∀ a, Has a N ((d, v) :: l) → wpStill P ops w L rest a) : wpStill P ops w L (o :: rest) a := by
  refine wpStill_step fun K hK => ?_
  simp only [Region.wanted, hg, if_true]
  unfold Oper.still
  rw [run_call H ho he (hent w)]
  refine ⟨rfl, v, C, ?_⟩
  rw [hd]
  exact hK _ (k _ (H.put hdN))
/-! A region that draws its order and only reads: the world behind it is one draw on. -/
theorem quiet_of_still : ∀ (rest : List Oper) (a : Act), wpStill P ops w L rest a → wpQuiet P ops (fun w' => w' = w) L rest a
  | [], a, h => h
  | o :: rest, a, h => by
    simp only [wpStill] at h
    simp only [wpQuiet]
    split
    · rename_i hw
      rw [if_pos hw] at h
      unfold Oper.still at h
      unfold Oper.quiet
      generalize hr : (execOp a.eval o).run P w = r at h
      cases r with
      | ok n w1 =>
        cases n with
        | value v =>
          exact ⟨v, fun w2 e => by rw [e]; unfold Oper.quietAt; rw [hr, h.1]; exact ⟨rfl, rfl⟩, quiet_of_still rest _ h.2⟩
        | skip =>
          exact ⟨undef, fun w2 e => by rw [e]; unfold Oper.quietAt; rw [hr, h.1]; exact ⟨rfl, rfl⟩, quiet_of_still rest _ h.2⟩
        | enter f args =>
          obtain ⟨e1, v, hc, h2⟩ := h
          exact ⟨v, fun w2 e => by rw [e]; unfold Oper.quietAt; rw [hr, e1]; exact ⟨rfl, hc⟩, quiet_of_still rest _ h2⟩
        | _ => exact (h : False).elim
      | _ => exact (h : False).elim
    · rename_i hw
      rw [if_neg hw] at h
      exact quiet_of_still rest _ h
theorem e_quiet {id : Nat} (hm : P.follows .mixedOrders = true) (hB : Region.lexB .any lo.toArray = true)
    (h : ∀ R : Act → World → Prop, Shut (∀ a w, Q .normal a w → R a w) → wpStill P lo.toArray w.drew (fun a' => R a' w.drew) lo a) : (Code.region id lo.toArray true).wp P Q a w := by
  refine wp_region_quiet (C := fun w' => w' = w.drew) hm hB rfl ?_
  refine quiet_of_still _ _ ?_
  have := h (fun a w => Q .normal a w) (fun _ _ h => h)
  refine wpStill_mono' ?_ _ _ (by simpa using this)
  rintro a' h' w' rfl
  exact h'
where wpStill_mono' {w : World} {L L' : Act → Prop} {ops : Array Oper} (h : ∀ a, L a → L' a) : ∀ (rest : List Oper) (a : Act), wpStill P ops w L rest a → wpStill P ops w L' rest a
  | [], a, hh => h a hh
  | o :: rest, a, hh => by
    simp only [wpStill] at hh ⊢
    split
    · rename_i hw
      rw [if_pos hw] at hh
      exact Oper.still_mono (fun a' h' => wpStill_mono' h rest a' h') hh
    · rename_i hw
      rw [if_neg hw] at hh
      exact wpStill_mono' h rest _ hh
/-! What the operations yield. -/
theorem x_move (H : Has a N l) {x : Operand} (ho : o.op = .move x) (e : ev l x = some v) : (execOp a.eval o).run P w = .ok (.value v) w := by
  unfold execOp; rw [ho]; simp only [H.ev e]; rfl
theorem x_assign (H : Has a N l) {x : Operand} (ho : o.op = .assign x) (e : ev l x = some v) : (execOp a.eval o).run P w = .ok (.value v) w := by
  unfold execOp; rw [ho]; simp only [H.ev e]; rfl
theorem x_binI (H : Has a N l) {b : BinOp} {t t' : TypeId} {x y : Operand} {k : IntKind} {i : Int} {vy : Value} (ho : o.op = .binOp b t x y t') (ex : ev l x = some (.int k i)) (ey : ev l y = some vy)
    (h : (binOp b t (.int k i) vy).run P w = .ok v w) : (execOp a.eval o).run P w = .ok (.value v) w := by
  unfold execOp; rw [ho]; simp only [H.ev ex, H.ev ey, eqGuard_at_int, Sem.run_bind, Sem.run_pure, Result.andThen_ok, h]
theorem x_bin (H : Has a N l) {b : BinOp} {t t' : TypeId} {x y : Operand} {vx vy : Value} (ho : o.op = .binOp b t x y t') (ex : ev l x = some vx) (ey : ev l y = some vy) (hq : (eqGuard b t x y vx vy).run P w = .ok () w)
    (h : (binOp b t vx vy).run P w = .ok v w) : (execOp a.eval o).run P w = .ok (.value v) w := by
  unfold execOp; rw [ho]; simp only [H.ev ex, H.ev ey, hq, Sem.run_bind, Sem.run_pure, Result.andThen_ok, h]
theorem x_un (H : Has a N l) {b : UnOp} {t : TypeId} {x : Operand} {vx : Value} (ho : o.op = .unOp b t x) (ex : ev l x = some vx)
    (h : (Op.unary b vx).run P w = .ok v w) : (execOp a.eval o).run P w = .ok (.value v) w := by
  unfold execOp; rw [ho]; simp only [H.ev ex, Sem.run_bind, Sem.run_pure, Result.andThen_ok, h]
theorem x_conv (H : Has a N l) {s t : TypeId} {x : Operand} {vx : Value} (ho : o.op = .convert s t x) (ex : ev l x = some vx)
    (h : (convert s t vx).run P w = .ok v w') : (execOp a.eval o).run P w = .ok (.value v) w' := by
  unfold execOp; rw [ho]; simp only [H.ev ex, Sem.run_bind, Sem.run_pure, Result.andThen_ok, h]
theorem x_load (H : Has a N l) {t : TypeId} {x : Operand} {vx : Value} (ho : o.op = .load t x) (ex : ev l x = some vx)
    (h : (Instr.loadAt t vx).run P w = .ok v w') : (execOp a.eval o).run P w = .ok (.value v) w' := by
  unfold execOp; rw [ho]; simp only [H.ev ex, Sem.run_bind, Sem.run_pure, Result.andThen_ok, h]
theorem x_store (H : Has a N l) {t : TypeId} {x y : Operand} {vx vy : Value} (ho : o.op = .store t x y) (ex : ev l x = some vx) (ey : ev l y = some vy)
    (h : (Instr.storeAt t vx vy).run P w = .ok () w') : (execOp a.eval o).run P w = .ok .skip w' := by
  unfold execOp; rw [ho]; simp only [H.ev ex, H.ev ey, Sem.run_bind, Sem.run_pure, Result.andThen_ok, h]
theorem x_nilCheck (H : Has a N l) {x : Operand} {p : Addr} (ho : o.op = .nilCheck x) (ex : ev l x = some (.pointer (some p))) : (execOp a.eval o).run P w = .ok (.value (.pointer (some p))) w := by
  unfold execOp; rw [ho]; simp only [H.ev ex]; rfl
theorem x_fieldAddr (H : Has a N l) {s f : Nat} {x : Operand} {vx : Value} (ho : o.op = .fieldAddr s x f) (ex : ev l x = some vx)
    (h : (Instr.fieldAt s vx f).run P w = .ok v w) : (execOp a.eval o).run P w = .ok (.value v) w := by
  unfold execOp; rw [ho]; simp only [H.ev ex, Sem.run_bind, Sem.run_pure, Result.andThen_ok, h]
theorem x_field (H : Has a N l) {s f : Nat} {x : Operand} {vx : Value} (ho : o.op = .field s x f) (ex : ev l x = some vx)
    (h : (Instr.field s vx f).run P w = .ok v w) : (execOp a.eval o).run P w = .ok (.value v) w := by
  unfold execOp; rw [ho]; simp only [H.ev ex, Sem.run_bind, Sem.run_pure, Result.andThen_ok, h]
theorem x_indexAddr (H : Has a N l) {t : TypeId} {x y : Operand} {vx vy : Value} (ho : o.op = .indexAddr t x y) (ex : ev l x = some vx) (ey : ev l y = some vy)
    (h : (Instr.indexAt t vx vy).run P w = .ok v w) : (execOp a.eval o).run P w = .ok (.value v) w := by
  unfold execOp; rw [ho]; simp only [H.ev ex, H.ev ey, Sem.run_bind, Sem.run_pure, Result.andThen_ok, h]
theorem x_index (H : Has a N l) {t : TypeId} {x y : Operand} {vx vy : Value} (ho : o.op = .index t x y) (ex : ev l x = some vx) (ey : ev l y = some vy)
    (h : (Instr.index t vx vy).run P w = .ok v w) : (execOp a.eval o).run P w = .ok (.value v) w := by
  unfold execOp; rw [ho]; simp only [H.ev ex, H.ev ey, Sem.run_bind, Sem.run_pure, Result.andThen_ok, h]
theorem x_alloc (H : Has a N l) {t : TypeId} (ho : o.op = .alloc t) 
    (h : (Instr.alloc t true (.tuple #[])).run P w = .ok v w') : (execOp a.eval o).run P w = .ok (.value v) w' := by
  unfold execOp; rw [ho]; simp only [Sem.run_bind, Sem.run_pure, Result.andThen_ok, h]
theorem x_box (H : Has a N l) {t : TypeId} {x : Operand} {vx : Value} (ho : o.op = .box t x) (ex : ev l x = some vx)
    (h : (Instr.box t vx).run P w = .ok v w') : (execOp a.eval o).run P w = .ok (.value v) w' := by
  unfold execOp; rw [ho]; simp only [H.ev ex, Sem.run_bind, Sem.run_pure, Result.andThen_ok, h]
theorem x_makeSlice (H : Has a N l) {t : TypeId} {x y : Operand} {vx vy : Value} (ho : o.op = .makeSlice t x y) (ex : ev l x = some vx) (ey : ev l y = some vy)
    (h : (Instr.makeSlice t vx vy).run P w = .ok v w') : (execOp a.eval o).run P w = .ok (.value v) w' := by
  unfold execOp; rw [ho]; simp only [H.ev ex, H.ev ey, Sem.run_bind, Sem.run_pure, Result.andThen_ok, h]
/-- the bounds of a slice expression -/
def evo (l : List (Nat × Value)) : Option Operand → Option (Option Value)
  | none => some none
  | some x => (ev l x).map some
theorem Has.evo (H : Has a N l) {x : Option Operand} {v : Option Value} (e : evo l x = some v) : x.map a.eval = v := by
  cases x with
  | none => simpa [Proofs.YtknllmcpogoeoaaDoor.evo] using e
  | some x =>
    simp only [Proofs.YtknllmcpogoeoaaDoor.evo, Option.map_eq_some_iff] at e
    obtain ⟨u, h1, rfl⟩ := e
    simp [H.ev h1]
theorem x_slice (H : Has a N l) {t : TypeId} {x : Operand} {lo hi : Option Operand} {vx : Value} {vl vh : Option Value} (ho : o.op = .slice t x lo hi none) (ex : ev l x = some vx) (el : evo l lo = some vl) (eh : evo l hi = some vh)
    (h : (Instr.sliceAt t vx vl vh none).run P w = .ok v w) : (execOp a.eval o).run P w = .ok (.value v) w := by
  unfold execOp; rw [ho]; simp only [H.ev ex, H.evo el, H.evo eh, Option.map_none, Sem.run_bind, Sem.run_pure, Result.andThen_ok, h]
/-- the parts of a composite literal -/
def evp (l : List (Nat × Value)) : List (Nat × Operand) → Option (List (Nat × Value))
  | [] => some []
  | (i, x) :: r => match ev l x, evp l r with
    | some v, some vs => some ((i, v) :: vs)
    | _, _ => none
theorem Has.evp (H : Has a N l) : ∀ {xs : List (Nat × Operand)} {vs : List (Nat × Value)}, evp l xs = some vs → xs.map (fun (i, x) => (i, a.eval x)) = vs
  | [], vs, e => by simp [Proofs.YtknllmcpogoeoaaDoor.evp] at e; simp [e]
  | (i, x) :: r, vs, e => by
    simp only [Proofs.YtknllmcpogoeoaaDoor.evp] at e
    cases h1 : Proofs.YtknllmcpogoeoaaDoor.ev l x with
    | none => simp [h1] at e
    | some u =>
      cases h2 : Proofs.YtknllmcpogoeoaaDoor.evp l r with
      | none => simp [h1, h2] at e
      | some us =>
        simp [h1, h2] at e
        subst e
        have := H.evp h2
        simp [H.ev h1, this]
theorem x_build (H : Has a N l) {t : TypeId} {xs : List (Nat × Operand)} {vs : List (Nat × Value)} (ho : o.op = .build t xs.toArray) (ex : evp l xs = some vs)
    (h : (Instr.build t vs.toArray).run P w = .ok v w) : (execOp a.eval o).run P w = .ok (.value v) w := by
  unfold execOp; rw [ho]; simp only [List.map_toArray, H.evp ex, Sem.run_bind, Sem.run_pure, Result.andThen_ok, h]
/-- a builtin -/
theorem x_builtin (H : Has a N l) {b : Builtin} {xs : List Operand} {ts : Array TypeId} {vs : List Value} (ho : o.op = .call { callee := .builtin b, args := xs.toArray, argTypes := ts }) (he : evs l xs = some vs)
    (h : ∀ cs, (builtin b ts o.type cs vs.toArray).run P w = .ok (.value v) w') : (execOp a.eval o).run P w = .ok (.value v) w' := by
  unfold execOp
  simp only [ho, resolve, Sem.run_bind, Sem.run_pure, Result.andThen_ok, invoke]
  have : (Array.map a.eval xs.toArray) = vs.toArray := by rw [List.map_toArray, H.evs he]
  rw [this]
  exact h _
/-! Control. -/
theorem c_true {c : Operand} {x y : Code} (H : Has a N l) (hc : ev l c = some (.bool true)) (h : x.wp P Q a w) : (Code.cond c x y).wp P Q a w := wp_cond_true (H.ev hc) h
theorem c_false {c : Operand} {x y : Code} (H : Has a N l) (hc : ev l c = some (.bool false)) (h : y.wp P Q a w) : (Code.cond c x y).wp P Q a w := wp_cond_false (H.ev hc) h
theorem c_split {c : Operand} {x y : Code} {t : Bool} (H : Has a N l) (hc : ev l c = some (.bool t)) (ht : t = true → x.wp P Q a w) (hf : t = false → y.wp P Q a w) : (Code.cond c x y).wp P Q a w := wp_cond_split (H.ev hc) ht hf
theorem b_hit {id : Nat} (h : Q .normal a w) : Exit.inBlock id Q (.exit id) a w := by simpa [Exit.inBlock] using h
theorem b_pass {id id' : Nat} (hne : id' ≠ id) (h : Q (.exit id') a w) : Exit.inBlock id Q (.exit id') a w := by simpa [Exit.inBlock, hne] using h
theorem t_exit {K : Act → World → Prop} {id : Nat} (h : Q (.exit id) a w) : Exit.then K Q (.exit id) a w := h
theorem t_ret {K : Act → World → Prop} (h : Q .ret a w) : Exit.then K Q .ret a w := h
theorem b_ret {id : Nat} (h : Q .ret a w) : Exit.inBlock id Q .ret a w := h
theorem ret1 {fn : Func} {t : Nat} {R : Ending → World → Prop} (H : Has a N l) (hr : fn.results = #[.tmp t]) (e : lk l t = some v) (h : R (.returned v) w) : bodyPost P fn R .ret a w := by
  refine bodyPost_ret (results_tmp hr _ _ _) H.nod ?_
  rw [show a.tmps.getD t undef = v from H.ev (x := .tmp t) e]
  exact h
theorem ret2 {fn : Func} {t u : Nat} {v1 v2 : Value} {R : Ending → World → Prop} (H : Has a N l) (hr : fn.results = #[.tmp t, .tmp u]) (e1 : lk l t = some v1) (e2 : lk l u = some v2) (h : R (.returned (.tuple #[v1, v2])) w) : bodyPost P fn R .ret a w := by
  refine bodyPost_ret (results_tmp2 hr _ _ _) H.nod ?_
  rw [show a.tmps.getD t undef = v1 from H.ev (x := .tmp t) e1, show a.tmps.getD u undef = v2 from H.ev (x := .tmp u) e2]
  exact h
theorem ret0 {fn : Func} {R : Ending → World → Prop} (H : Has a N l) (hr : fn.results = #[]) (h : R (.returned (.tuple #[])) w) : bodyPost P fn R .ret a w :=
  bodyPost_ret (results_none hr _ _ _) H.nod h
theorem end0 {fn : Func} {R : Ending → World → Prop} (H : Has a N l) (hr : fn.results = #[]) (h : R (.returned (.tuple #[])) w) : bodyPost P fn R .normal a w :=
  bodyPost_end (results_none hr _ _ _) H.nod h
end
end Go.Proofs.YtknllmcpogoeoaaDoor
