/- For the reference's walks: choices, slices written out, the string of constants, rows of words that grow. -/
import Derived.Test.YtknllmcpogoeoaaDoorHs3
namespace Go.Proofs.YtknllmcpogoeoaaDoor
open Go.RowKit
set_option linter.unusedVariables false
set_option linter.unusedSimpArgs false
section
variable {P : Program} {a : Act} {N : Nat} {l : List (Nat × Value)} {w w' : World} {o : Oper} {v : Value}
theorem x_pickT (H : Has a N l) {c x y : Operand} (ho : o.op = .pick c x y) (ec : ev l c = some (.bool true)) (ex : ev l x = some v) : (execOp a.eval o).run P w = .ok (.value v) w := by
  unfold execOp; rw [ho]; simp only [H.ev ec, H.ev ex, asBool, Sem.run_bind, Sem.run_pure, Result.andThen_ok, if_true]
theorem x_pickF (H : Has a N l) {c x y : Operand} (ho : o.op = .pick c x y) (ec : ev l c = some (.bool false)) (ey : ev l y = some v) : (execOp a.eval o).run P w = .ok (.value v) w := by
  unfold execOp; rw [ho]; simp only [H.ev ec, H.ev ey, asBool, Sem.run_bind, Sem.run_pure, Result.andThen_ok, Bool.false_eq_true, if_false]
theorem x_buildSlice (H : Has a N l) {t n : Nat} {xs : List (Nat × Operand)} {vs : List (Nat × Value)} (ho : o.op = .buildSlice t n xs.toArray) (ex : evp l xs = some vs)
    (h : (Instr.buildSlice t n vs.toArray).run P w = .ok v w') : (execOp a.eval o).run P w = .ok (.value v) w' := by
  unfold execOp; rw [ho]; simp only [List.map_toArray, H.evp ex, Sem.run_bind, Sem.run_pure, Result.andThen_ok, h]
theorem idx_str {t : TypeId} {s : ByteArray} {q : IntKind} {i : Int} {m : Nat} (hu : P.underlying t = some .string) (hi : i = (m : Int)) (hm : m < s.size) :
    (Instr.index t (.string s) (.int q i)).run P w = .ok (.int .u8 ((s.data.toList[m]?.getD 0).toNat : Int)) w := by
  subst hi
  rw [run_index_string w t s q (m : Int) hu]
  have hm' : m < s.data.size := hm
  simp [hm]
  rfl
end
/-! A region that draws its order and holds calls that draw: the world behind it is some draws on. -/
section
variable {P : Program} {a : Act} {N : Nat} {l : List (Nat × Value)} {w : World} {o : Oper} {v : Value} {Q : Exit → Act → World → Prop} {ops : Array Oper} {lo rest : List Oper} {d : Nat} {L : Act → Prop}
theorem e_quietN {id : Nat} (hm : P.follows .mixedOrders = true) (hB : Region.lexB .any lo.toArray = true)
    (h : ∀ R : Act → World → Prop, Shut (∀ a w, Q .normal a w → R a w) → wpQuiet P lo.toArray (fun w' => ∃ n, w' = w.drewN n) (fun a' => ∀ n, R a' (w.drewN n)) lo a) : (Code.region id lo.toArray true).wp P Q a w := by
  refine wp_region_quiet_lit hm hB ?_
  have := h (fun a w => Q .normal a w) (fun _ _ h => h)
  refine mono ?_ _ _ this
  rintro a' h' w' ⟨n, rfl⟩
  exact h' n
where mono {C : World → Prop} {L L' : Act → Prop} {ops : Array Oper} (h : ∀ a, L a → L' a) : ∀ (rest : List Oper) (a : Act), wpQuiet P ops C L rest a → wpQuiet P ops C L' rest a
  | [], a, hh => h a hh
  | o :: rest, a, hh => by
    simp only [wpQuiet] at hh ⊢
    split
    · rename_i hw
      rw [if_pos hw] at hh
      exact Oper.quiet_mono (fun a' h' => mono h rest a' h') hh
    · rename_i hw
      rw [if_neg hw] at hh
      exact mono h rest _ hh
theorem q_op (H : Has a N l) (hg : o.guard = none) (hd : o.dst = some d) (hdN : d < N) (hr : ∀ n, (execOp a.eval o).run P (w.drewN n) = .ok (.value v) (w.drewN n))
    (k : ∀ a, Has a N ((d, v) :: l) → wpQuiet P ops (fun w' => ∃ n, w' = w.drewN n) L rest a) : wpQuiet P ops (fun w' => ∃ n, w' = w.drewN n) L (o :: rest) a := by
  refine wpQuiet_step fun K hK => ?_
  simp only [Region.wanted, hg, if_true]
  refine ⟨v, ?_, ?_⟩
  · rintro w1 ⟨n, rfl⟩
    unfold Oper.quietAt
    rw [hr n]
    exact ⟨rfl, rfl⟩
  · rw [hd]
    exact hK _ (k _ (H.put hdN))
theorem q_call (H : Has a N l) {f : FuncId} {xs : List Operand} {ts : Array TypeId} {vs : List Value} (hg : o.guard = none) (hd : o.dst = some d) (hdN : d < N)
    (ho : o.op = .call { callee := .value (.func f), args := xs.toArray, argTypes := ts }) (he : evs l xs = some vs) (hent : ∀ w, (callFunc f vs.toArray).run P w = .ok (.enter f vs.toArray) w)
    (C : ∀ n, Calls P f vs.toArray (w.drewN n) (fun e w' => e = .returned v ∧ ∃ m, w' = (w.drewN n).drewN m))
    (k : ∀ a, Has a N ((d, v) :: l) → wpQuiet P ops (fun w' => ∃ n, w' = w.drewN n) L rest a) : wpQuiet P ops (fun w' => ∃ n, w' = w.drewN n) L (o :: rest) a := by
  refine wpQuiet_step fun K hK => ?_
  simp only [Region.wanted, hg, if_true]
  refine ⟨v, ?_, ?_⟩
  · rintro w1 ⟨n, rfl⟩
    unfold Oper.quietAt
    rw [run_call H ho he (hent _)]
    refine ⟨rfl, (C n).mono ?_⟩
    rintro e w2 ⟨h1, m, h2⟩
    exact ⟨h1, n + m, by rw [h2, World.drewN_drewN]⟩
  · rw [hd]
    exact hK _ (k _ (H.put hdN))
end
/-! A region that draws its order, in which what was there stays as it was: what only reads may be taken first, the rest comes up one at a time. -/
section
variable {P : Program} {a : Act} {N : Nat} {l : List (Nat × Value)} {w w' : World} {o : Oper} {v : Value} {Q : Exit → Act → World → Prop} {R : Act → World → Prop} {ops : Array Oper} {lo : List Oper} {d i fuel : Nat} {listed : Array Bool} {md : Region.Mode}
theorem h_start {id : Nat} (hm : P.follows .mixedOrders = true)
    (h : ∀ R : Act → World → Prop, Shut (∀ a w, Q .normal a w → R a w) → wpAnyH P .any lo.toArray (OnlyN R) (Ext w.drew) lo.length (Array.replicate lo.length false) a w.drew) : (Code.region id lo.toArray true).wp P Q a w := by
  refine Code.wp_mono onlyN_imp (rg_start hm ?_)
  have := h (fun a w => Q .normal a w) (fun _ _ h => h)
  simpa using this
theorem h_take (i : Nat) (H : Has a N l) (hi : ops[i]? = some o) (hg : o.guard = none) (hd : o.dst = some d) (hdN : d < N) (hs : Region.noSelect ops = true) (hf : Region.free md ops listed i = true) (hr : (Region.ready md ops listed).contains i = true)
    (hy : ∀ w', Ext w w' → (execOp a.eval o).run P w' = .ok (.value v) w')
    (k : ∀ a, Has a N ((d, v) :: l) → wpAnyH P md ops (OnlyN R) (Ext w) fuel (listed.setIfInBounds i true) a w) : wpAnyH P md ops (OnlyN R) (Ext w) (fuel + 1) listed a w :=
  rg_take hi hd hs hf hr (fun _ _ _ h => h) (by simp [Region.wanted, hg]) hy (k _ (H.put hdN))
theorem h_takeg (i : Nat) (H : Has a N l) (hi : ops[i]? = some o) (hw : Region.wanted o (yielded ops a.tmps) = true) (hd : o.dst = some d) (hdN : d < N) (hs : Region.noSelect ops = true) (hf : Region.free md ops listed i = true) (hr : (Region.ready md ops listed).contains i = true)
    (hy : ∀ w', Ext w w' → (execOp a.eval o).run P w' = .ok (.value v) w')
    (k : ∀ a, Has a N ((d, v) :: l) → wpAnyH P md ops (OnlyN R) (Ext w) fuel (listed.setIfInBounds i true) a w) : wpAnyH P md ops (OnlyN R) (Ext w) (fuel + 1) listed a w :=
  rg_take hi hd hs hf hr (fun _ _ _ h => h) hw hy (k _ (H.put hdN))
theorem h_skip (i : Nat) (H : Has a N l) (hi : ops[i]? = some o) (hw : Region.wanted o (yielded ops a.tmps) = false) (hd : o.dst = some d) (hdN : d < N) (hs : Region.noSelect ops = true) (hf : Region.free md ops listed i = true) (hr : (Region.ready md ops listed).contains i = true)
    (k : ∀ a, Has a N ((d, undef) :: l) → wpAnyH P md ops (OnlyN R) (Ext w) fuel (listed.setIfInBounds i true) a w) : wpAnyH P md ops (OnlyN R) (Ext w) (fuel + 1) listed a w :=
  rg_skip hi hd hs hf hr (fun _ _ _ h => h) hw (k _ (H.put hdN))
/-- the one operation that may come up, not a call -/
theorem h_op (i : Nat) (H : Has a N l) (hi : ops[i]? = some o) (hr : Region.ready md ops listed = [i]) (hw : Region.wanted o (yielded ops a.tmps) = true) (hd : o.dst = some d) (hdN : d < N)
    (hy : (execOp a.eval o).run P w = .ok (.value v) w') (hE : Ext w w')
    (k : ∀ a, Has a N ((d, v) :: l) → wpAnyH P md ops (OnlyN R) (Ext w') fuel (listed.setIfInBounds i true) a w') : wpAnyH P md ops (OnlyN R) (Ext w) (fuel + 1) listed a w := by
  refine rg_call hi hr hw (fun K hK => ?_)
  unfold Oper.wp
  rw [hy, Oper.upon_value, hd]
  exact hK.out _ _ hE (k _ (H.put hdN))
/-- the one operation that may come up, a call -/
theorem h_call (i : Nat) (H : Has a N l) (hi : ops[i]? = some o) (hr : Region.ready md ops listed = [i]) (hw : Region.wanted o (yielded ops a.tmps) = true) (hd : o.dst = some d) (hdN : d < N) {f : FuncId} {xs : List Operand} {ts : Array TypeId} {vs : List Value}
    (ho : o.op = .call { callee := .value (.func f), args := xs.toArray, argTypes := ts }) (he : evs l xs = some vs) (hent : ∀ w, (callFunc f vs.toArray).run P w = .ok (.enter f vs.toArray) w)
    {S : Ending → World → Prop} (C : Calls P f vs.toArray w S)
    (k : ∀ e w', S e w' → ∃ v, e = .returned v ∧ Ext w w' ∧ ∀ a, Has a N ((d, v) :: l) → wpAnyH P md ops (OnlyN R) (Ext w') fuel (listed.setIfInBounds i true) a w') : wpAnyH P md ops (OnlyN R) (Ext w) (fuel + 1) listed a w := by
  refine rg_call hi hr hw (fun K hK => ?_)
  unfold Oper.wp
  rw [run_call H ho he (hent w), Oper.upon_enter]
  refine C.mono ?_
  intro e w1 hS
  obtain ⟨v, rfl, hE, h⟩ := k e w1 hS
  rw [hd]
  exact hK.out _ _ hE (h _ (H.put hdN))
theorem h_done (hr : Region.ready md ops listed = []) (h : R a w) : wpAnyH P md ops (OnlyN R) (Ext w) fuel listed a w := rg_done hr h
theorem wanted_none (hg : o.guard = none) : Region.wanted o (yielded ops a.tmps) = true := by simp [Region.wanted, hg]
end
/-! A region that draws its order, nothing asked of the worlds: what looks at no memory may be taken first; the rest comes up, one or two at a time. -/
section
variable {P : Program} {a : Act} {N : Nat} {l : List (Nat × Value)} {w w' : World} {o o2 : Oper} {v : Value} {Q : Exit → Act → World → Prop} {R : Act → World → Prop} {ops : Array Oper} {lo : List Oper} {d i fuel : Nat} {listed : Array Bool} {md : Region.Mode}
theorem t_start {id : Nat} (hm : P.follows .mixedOrders = true)
    (h : ∀ R : Act → World → Prop, Shut (∀ a w, Q .normal a w → R a w) → wpAny P .any lo.toArray (OnlyN R) lo.length (Array.replicate lo.length false) a w.drew) : (Code.region id lo.toArray true).wp P Q a w := by
  refine Code.wp_mono onlyN_imp (rt_start hm ?_)
  have := h (fun a w => Q .normal a w) (fun _ _ h => h)
  simpa using this
theorem t_take (i : Nat) (H : Has a N l) (hi : ops[i]? = some o) (hg : o.guard = none) (hd : o.dst = some d) (hdN : d < N) (hs : Region.noSelect ops = true) (hf : Region.free md ops listed i = true) (hr : (Region.ready md ops listed).contains i = true)
    (hy : ∀ w', (execOp a.eval o).run P w' = .ok (.value v) w')
    (k : ∀ a, Has a N ((d, v) :: l) → wpAny P md ops (OnlyN R) fuel (listed.setIfInBounds i true) a w) : wpAny P md ops (OnlyN R) (fuel + 1) listed a w :=
  rt_take hi hd hs hf hr (fun _ _ _ h => h) (by simp [Region.wanted, hg]) hy (k _ (H.put hdN))
theorem t_one (i : Nat) (H : Has a N l) (hi : ops[i]? = some o) (hr : Region.ready md ops listed = [i]) (hw : Region.wanted o (yielded ops a.tmps) = true) (hd : o.dst = some d) (hdN : d < N)
    (hy : (execOp a.eval o).run P w = .ok (.value v) w')
    (k : ∀ a, Has a N ((d, v) :: l) → wpAny P md ops (OnlyN R) fuel (listed.setIfInBounds i true) a w') : wpAny P md ops (OnlyN R) (fuel + 1) listed a w := by
  refine rt_one hi hr hw (fun K hK => ?_)
  unfold Oper.wp
  rw [hy, Oper.upon_value, hd]
  exact hK.out _ _ (k _ (H.put hdN))
theorem t_two (i j : Nat) (H : Has a N l) {d2 : Nat} {v2 : Value} {w2 : World} (hr : Region.ready md ops listed = [i, j])
    (hi : ops[i]? = some o) (hw : Region.wanted o (yielded ops a.tmps) = true) (hd : o.dst = some d) (hdN : d < N) (hy : (execOp a.eval o).run P w = .ok (.value v) w')
    (hj : ops[j]? = some o2) (hw2 : Region.wanted o2 (yielded ops a.tmps) = true) (hd2 : o2.dst = some d2) (hdN2 : d2 < N) (hy2 : (execOp a.eval o2).run P w = .ok (.value v2) w2)
    (k : ∀ a, Has a N ((d, v) :: l) → wpAny P md ops (OnlyN R) fuel (listed.setIfInBounds i true) a w')
    (k2 : ∀ a, Has a N ((d2, v2) :: l) → wpAny P md ops (OnlyN R) fuel (listed.setIfInBounds j true) a w2) : wpAny P md ops (OnlyN R) (fuel + 1) listed a w := by
  refine wpAny_ready hr (by simp) (AllReady.cons hi (fun K hK => ?_) (AllReady.cons hj (fun K hK => ?_) AllReady.nil))
  · rw [if_pos hw]
    unfold Oper.wp
    rw [hy, Oper.upon_value, hd]
    exact hK _ _ (k _ (H.put hdN))
  · rw [if_pos hw2]
    unfold Oper.wp
    rw [hy2, Oper.upon_value, hd2]
    exact hK _ _ (k2 _ (H.put hdN2))
theorem t_done (hr : Region.ready md ops listed = []) (h : R a w) : wpAny P md ops (OnlyN R) fuel listed a w := rt_done hr h
end
theorem bs0 (w : World) : (Instr.buildSlice 22 0 #[]).run Tryd.prog w = .ok (.slice (some ⟨w.heap.size, 0, none⟩) 0 0) (w.alloc (.cells #[] 5)) := by kernel_rfl
theorem bs1 (i : Int) (w : World) : (Instr.buildSlice 22 1 #[(0, .int .u8 i)]).run Tryd.prog w = .ok (.slice (some ⟨w.heap.size, 0, none⟩) 1 1) (w.alloc (.cells #[.int .u8 i] 5)) := by kernel_rfl
theorem bsw (i : Int) (w : World) : (Instr.buildSlice 69 1 #[(0, .int .u32 i)]).run Tryd.prog w = .ok (.slice (some ⟨w.heap.size, 0, none⟩) 1 1) (w.alloc (.cells #[.int .u32 i] 66)) := by kernel_rfl
/-- the value of a hexadecimal digit; -1: none -/
def digv (n : Nat) : Int := if 48 ≤ n ∧ n ≤ 57 then (n : Int) - 48 else if 97 ≤ n ∧ n ≤ 102 then (n : Int) - 87 else -1
/-- the first string that stands in a code -/
def strOp : Op → Option ByteArray
  | .index _ (.const (.string s)) _ => some s
  | _ => none
def findS : Code → Option ByteArray
  | .seq x y => match findS x with | some s => some s | none => findS y
  | .cond _ x y => match findS x with | some s => some s | none => findS y
  | .block _ x => findS x
  | .loop x => findS x
  | .region _ ops _ => ops.toList.findSome? (fun o => strOp o.op)
  | _ => none
/-- the reference's string of constants -/
noncomputable def refS : ByteArray := ((Tryd.f39.body.bind findS)).getD ByteArray.empty
noncomputable def rsb (m : Nat) : UInt8 := refS.data.toList[m]?.getD 0
theorem refS_size : refS.size = 576 := by kernel_rfl
/-- the first j digits of constant i, as a number -/
noncomputable def cpart (i : Nat) : Nat → Nat
  | 0 => 0
  | j + 1 => (16 * cpart i j + (digv (rsb (8 * i + j)).toNat).toNat) % 4294967296
def kall : List (BitVec 32) := st0.l ++ kc
noncomputable def cok (i : Nat) : Bool := (cpart i 8 == (wat kall i).toNat) && ((List.range 8).all fun j => decide (0 ≤ digv (rsb (8 * i + j)).toNat))
theorem cok_all : (List.range 72).all cok = true := by kernel_rfl
theorem cok_at (i : Nat) (hi : i < 72) : cok i = true := (List.all_eq_true.1 cok_all) i (by simpa using hi)
theorem cpart_end (i : Nat) (hi : i < 72) : (cpart i 8 : Int) = wn (wat kall i) := by
  have h := cok_at i hi
  unfold cok at h
  simp only [Bool.and_eq_true, beq_iff_eq] at h
  unfold wn
  rw [h.1]
theorem cdig (i j : Nat) (hi : i < 72) (hj : j < 8) : 0 ≤ digv (rsb (8 * i + j)).toNat := by
  have h := cok_at i hi
  unfold cok at h
  simp only [Bool.and_eq_true] at h
  have := (List.all_eq_true.1 h.2) j (by simpa using hj)
  simpa using this
theorem digv_le (n : Nat) : digv n ≤ 15 := by unfold digv; split <;> (try split) <;> omega
theorem digv_lo (n : Nat) : -1 ≤ digv n := by unfold digv; split <;> (try split) <;> omega
theorem kall_lo (i : Nat) (h : i < 8) : wat kall i = wat st0.l i := by unfold kall; exact wat_left _ _ _ (by rw [S8.len]; exact h)
theorem kall_hi (i : Nat) : wat kall (8 + i) = wat kc i := by
  unfold kall wat
  rw [List.getElem?_append_right (by rw [S8.len]; omega), S8.len, Nat.add_sub_cancel_left]
/-! rows of words -/
theorem el69 : ElemT 69 66 1 4 (.int .u32 0) := ⟨Tryd.underlying69, by kernel_rfl, rfl, by decide⟩
theorem row_at {w : World} {B e n c : Nat} {a : Option Addr} {xs : List Value} (h : w.ownsRow B e 1 (.slice a n c) n xs) (h0 : 0 < n) :
    ∃ g, a = some ⟨g, 0, none⟩ ∧ B ≤ g ∧ ∀ j, j < n → w.cell? ⟨g, j, none⟩ = xs[j]? := by
  rcases h.2 with ⟨e1, e2⟩ | ⟨g, cap, cur, e1, hg, hh, hn, hm, hs, ht⟩
  · omega
  · simp only [Value.slice.injEq] at e1
    refine ⟨g, e1.1, hg, fun j hj => ?_⟩
    rw [cell_of_row w g j cur e (0, 0) hh, ← ht]
    rw [List.getElem?_take, if_pos (by omega)]
    simp
/-! the reference's eight bytes -/
theorem long_set (r : List UInt8) (m : Nat) (v : UInt8) : (List.replicate (m + 1) 0 ++ r).set m v = List.replicate m 0 ++ (v :: r) := by
  rw [List.set_append_left _ _ (by simp), ← List.replicate_append_replicate, List.set_append_right _ _ (by simp)]
  simp
theorem be8_drop (x k : Nat) (h : k < 8) : (be8 x).drop k = UInt8.ofNat (x / 2 ^ (56 - 8 * k)) :: (be8 x).drop (k + 1) := by
  rw [List.drop_eq_getElem_cons (by rw [be8_len]; exact h)]
  simp [be8]
end Go.Proofs.YtknllmcpogoeoaaDoor
