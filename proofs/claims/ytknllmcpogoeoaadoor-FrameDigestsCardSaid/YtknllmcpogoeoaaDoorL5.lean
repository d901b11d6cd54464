/- The order of digests: bytes.Compare, Less, the reference's Less, DigestOrders, walked. -/
import Derived.Test.YtknllmcpogoeoaaDoorL4
import Derived.Lib.BytesEntry
import Derived.Lib.Bytealg
namespace Go.Proofs.YtknllmcpogoeoaaDoor
open Go.RowKit
set_option linter.unusedVariables false
set_option linter.unusedSimpArgs false
set_option maxRecDepth 100000
/-! The order, plainly. -/
def blt (a b : List UInt8) : Bool := decide (Lib.compareBytes a b < 0)
theorem cmp_cons (x y : UInt8) (a b : List UInt8) : Lib.compareBytes (x :: a) (y :: b) = if x.toNat < y.toNat then -1 else if y.toNat < x.toNat then 1 else Lib.compareBytes a b := by
  conv => lhs; unfold Lib.compareBytes
  simp only [UInt8.lt_iff_toNat_lt]
theorem cmp_self : ∀ a : List UInt8, Lib.compareBytes a a = 0
  | [] => rfl
  | x :: a => by rw [cmp_cons, if_neg (by omega), if_neg (by omega)]; exact cmp_self a
theorem cmp_anti : ∀ a b : List UInt8, Lib.compareBytes b a = - Lib.compareBytes a b
  | [], [] => rfl
  | [], y :: b => rfl
  | x :: a, [] => rfl
  | x :: a, y :: b => by
    rw [cmp_cons, cmp_cons]
    rcases Nat.lt_trichotomy x.toNat y.toNat with h | h | h
    · rw [if_neg (by omega), if_pos h, if_pos h]; rfl
    · rw [if_neg (by omega), if_neg (by omega), if_neg (by omega), if_neg (by omega)]; exact cmp_anti a b
    · rw [if_pos h, if_neg (by omega), if_pos h]
theorem cmp_zero : ∀ a b : List UInt8, Lib.compareBytes a b = 0 → a = b
  | [], [], _ => rfl
  | [], y :: b, h => by exact absurd h (by simp [Lib.compareBytes])
  | x :: a, [], h => by exact absurd h (by simp [Lib.compareBytes])
  | x :: a, y :: b, h => by
    rw [cmp_cons] at h
    rcases Nat.lt_trichotomy x.toNat y.toNat with h1 | h1 | h1
    · rw [if_pos h1] at h; exact absurd h (by decide)
    · rw [if_neg (by omega), if_neg (by omega)] at h
      rw [cmp_zero a b h, UInt8.toNat_inj.1 h1]
    · rw [if_neg (by omega), if_pos h1] at h; exact absurd h (by decide)
theorem cmp_trans : ∀ a b c : List UInt8, Lib.compareBytes a b < 0 → Lib.compareBytes b c < 0 → Lib.compareBytes a c < 0
  | [], [], _, h, _ => by exact absurd h (by decide)
  | _ :: _, [], _, h, _ => by exact absurd h (by simp [Lib.compareBytes])
  | _, _ :: _, [], _, h => by exact absurd h (by simp [Lib.compareBytes])
  | [], _ :: _, _ :: _, _, _ => by simp [Lib.compareBytes]
  | x :: a, y :: b, z :: c, h1, h2 => by
    rw [cmp_cons] at h1 h2 ⊢
    rcases Nat.lt_trichotomy x.toNat y.toNat with e1 | e1 | e1
    · rcases Nat.lt_trichotomy y.toNat z.toNat with e2 | e2 | e2
      · rw [if_pos (by omega)]; decide
      · rw [if_pos (by omega)]; decide
      · rw [if_neg (by omega), if_pos e2] at h2; exact absurd h2 (by decide)
    · rw [if_neg (by omega), if_neg (by omega)] at h1
      rcases Nat.lt_trichotomy y.toNat z.toNat with e2 | e2 | e2
      · rw [if_pos (by omega)]; decide
      · rw [if_neg (by omega), if_neg (by omega)] at h2
        rw [if_neg (by omega), if_neg (by omega)]
        exact cmp_trans a b c h1 h2
      · rw [if_neg (by omega), if_pos e2] at h2; exact absurd h2 (by decide)
    · rw [if_neg (by omega), if_pos e1] at h1; exact absurd h1 (by decide)
theorem blt_irr (a : List UInt8) : blt a a = false := by unfold blt; rw [cmp_self]; rfl
theorem blt_trans {a b c : List UInt8} (h1 : blt a b = true) (h2 : blt b c = true) : blt a c = true := by
  unfold blt at *
  exact decide_eq_true (cmp_trans a b c (of_decide_eq_true h1) (of_decide_eq_true h2))
theorem blt_flip {a b : List UInt8} (h : a ≠ b) : blt b a = !blt a b := by
  unfold blt
  rw [cmp_anti a b]
  have : Lib.compareBytes a b ≠ 0 := fun e => h (cmp_zero a b e)
  rw [← decide_not]
  apply decide_eq_decide.2
  omega
theorem drop_one {a : List UInt8} {i : Nat} {x : UInt8} (h : a[i]? = some x) : a.drop i = x :: a.drop (i + 1) := by
  obtain ⟨hi, e⟩ := List.getElem?_eq_some_iff.1 h
  rw [List.drop_eq_getElem_cons hi, e]
/-! The model's entry at two slices. -/
theorem run_bytesOf {P : Program} {w : World} {a : Option Addr} {n c : Nat} {l : List UInt8} (h : Bs w a n l) : (Extern.Bytes.bytesOf (.slice a n c)).run P w = .ok ⟨l.toArray⟩ w := by
  have hl := h.leng
  have hx : (l.map fun x => (x.toNat : Int)).length = n := by simp [hl]
  have hb : Lib.bytesOf (l.map fun x => (x.toNat : Int)) = l := by simp [Lib.bytesOf, Function.comp_def]
  cases a with
  | none =>
    rcases Nat.eq_zero_or_pos n with h0 | h0
    · have : l = [] := List.eq_nil_of_length_eq_zero (by omega)
      subst this
      rfl
    · obtain ⟨b, o, e, _⟩ := h.cell 0 h0
      cases e
  | some ad =>
    have := Lib.run_loadBytesX (P := P) w (l.map fun x => (x.toNat : Int)) ad .empty (fun j x hj => by
      rw [List.getElem?_map] at hj
      obtain ⟨y, hy, rfl⟩ := Option.map_eq_some_iff.1 hj
      have hjl : j < n := by have := (List.getElem?_eq_some_iff.1 hy).1; omega
      obtain ⟨b, o, e, hc⟩ := h.cell j hjl
      obtain rfl : ad = ⟨b, o, none⟩ := by simpa using e
      rw [Addr.add_lit, hc, nb_bt]
      simp [bt, hy])
    rw [hx, hb] at this
    unfold Extern.Bytes.bytesOf
    rw [this]
    show Result.ok (⟨#[] ++ l.toArray⟩ : ByteArray) w = _
    rw [Array.empty_append]
theorem run_compare {P : Program} {w : World} {a b : Option Addr} {n m c d : Nat} {l r : List UInt8} (h : Bs w a n l) (h2 : Bs w b m r) :
    (Extern.BytealgCompare.compare #[.slice a n c, .slice b m d]).run P w = .ok (.int .i64 (Lib.compareBytes l r)) w := by
  change Sem.run P (do pure (goInt (Extern.BytealgCompare.cmp (← Extern.Bytes.bytesOf (.slice a n c)) (← Extern.Bytes.bytesOf (.slice b m d))))) w = _
  simp only [Sem.run_bind, run_bytesOf h, run_bytesOf h2, Result.andThen_ok, Sem.run_pure]
  rw [Lib.cmp_eq]
  rfl
theorem run54 {w : World} {a b : Option Addr} {n m c d : Nat} {l r : List UInt8} (h : Bs w a n l) (h2 : Bs w b m r) :
    (callFunc 54 #[.slice a n c, .slice b m d]).run Tryd.prog w = .ok (.value (.int .i64 (Lib.compareBytes l r))) w := by
  rw [run_callFunc_extern (show Tryd.prog.funcs[54]? = some Tryd.f54 by kernel_rfl) (by kernel_rfl) (by kernel_rfl) (by kernel_rfl) (e := Extern.BytealgCompare.compare) (by kernel_rfl), run_compare h h2]
  rfl
theorem eqg4 {x y : Operand} {a b : Bool} {w : World} : (eqGuard .eql 4 x y (.bool a) (.bool b)).run Tryd.prog w = .ok () w := by kernel_rfl
theorem eqn4 {x y : Operand} {a b : Bool} {w : World} : (eqGuard .neq 4 x y (.bool a) (.bool b)).run Tryd.prog w = .ok () w := by kernel_rfl
theorem eqb4 {a b c : Bool} {w : World} (h : (a == b) = c) : (binOp .eql 4 (.bool a) (.bool b)).run Tryd.prog w = .ok (.bool c) w := by
  subst h; cases a <;> cases b <;> kernel_rfl
theorem neb4 {a b c : Bool} {w : World} (h : (a != b) = c) : (binOp .neq 4 (.bool a) (.bool b)).run Tryd.prog w = .ok (.bool c) w := by
  subst h; cases a <;> cases b <;> kernel_rfl
section
variable {P : Program} {a : Act} {N : Nat} {l : List (Nat × Value)} {w w' w0 : World} {o o2 o3 : Oper} {v : Value} {R : Act → World → Prop} {ops : Array Oper} {d i fuel : Nat} {listed : Array Bool} {md : Region.Mode}
theorem x_extern (H : Has a N l) {f : FuncId} {xs : List Operand} {ts : Array TypeId} {vs : List Value} (ho : o.op = .call { callee := .value (.func f), args := xs.toArray, argTypes := ts }) (he : evs l xs = some vs)
    (hent : (callFunc f vs.toArray).run P w = .ok (.value v) w') : (execOp a.eval o).run P w = .ok (.value v) w' := by
  unfold execOp
  simp only [ho, resolve, Sem.run_bind, Act.eval, Deferred.ofValue, Sem.run_pure, Result.andThen_ok, invoke]
  have : (Array.map a.eval xs.toArray) = vs.toArray := by rw [List.map_toArray, H.evs he]
  rw [this]
  simpa using hent
/-! A region that draws its order, kept to the world it began with. -/
theorem k_op (i : Nat) (H : Has a N l) (hi : ops[i]? = some o) (hr : Region.ready md ops listed = [i]) (hw : Region.wanted o (yielded ops a.tmps) = true) (hd : o.dst = some d) (hdN : d < N)
    (hy : (execOp a.eval o).run P w = .ok (.value v) w') (hE : Ext w0 w')
    (k : ∀ a, Has a N ((d, v) :: l) → wpAnyH P md ops (OnlyN R) (Ext w0) fuel (listed.setIfInBounds i true) a w') : wpAnyH P md ops (OnlyN R) (Ext w0) (fuel + 1) listed a w := by
  refine wpAnyH_ready hr (by simp) (AllReadyH.cons hi (fun K hK => ?_) AllReadyH.nil)
  rw [if_pos hw]
  unfold Oper.wp
  rw [hy, Oper.upon_value, hd]
  exact hK.out _ _ hE (fun _ => k _ (H.put hdN))
theorem k_st (i : Nat) (H : Has a N l) (hi : ops[i]? = some o) (hr : Region.ready md ops listed = [i]) (hw : Region.wanted o (yielded ops a.tmps) = true) (hd : o.dst = none)
    (hy : (execOp a.eval o).run P w = .ok .skip w') (hE : Ext w0 w')
    (k : wpAnyH P md ops (OnlyN R) (Ext w0) fuel (listed.setIfInBounds i true) a w') : wpAnyH P md ops (OnlyN R) (Ext w0) (fuel + 1) listed a w := by
  refine wpAnyH_ready hr (by simp) (AllReadyH.cons hi (fun K hK => ?_) AllReadyH.nil)
  rw [if_pos hw]
  unfold Oper.wp
  rw [hy, Oper.upon_skip, hd]
  exact hK.out _ _ hE (fun _ => k)
theorem k_two (i j : Nat) (H : Has a N l) {d2 : Nat} {v2 : Value} {w2 : World} (hr : Region.ready md ops listed = [i, j])
    (hi : ops[i]? = some o) (hw : Region.wanted o (yielded ops a.tmps) = true) (hd : o.dst = some d) (hdN : d < N) (hy : (execOp a.eval o).run P w = .ok (.value v) w') (hE : Ext w0 w')
    (hj : ops[j]? = some o2) (hw2 : Region.wanted o2 (yielded ops a.tmps) = true) (hd2 : o2.dst = some d2) (hdN2 : d2 < N) (hy2 : (execOp a.eval o2).run P w = .ok (.value v2) w2) (hE2 : Ext w0 w2)
    (k : ∀ a, Has a N ((d, v) :: l) → wpAnyH P md ops (OnlyN R) (Ext w0) fuel (listed.setIfInBounds i true) a w')
    (k2 : ∀ a, Has a N ((d2, v2) :: l) → wpAnyH P md ops (OnlyN R) (Ext w0) fuel (listed.setIfInBounds j true) a w2) : wpAnyH P md ops (OnlyN R) (Ext w0) (fuel + 1) listed a w := by
  refine wpAnyH_ready hr (by simp) (AllReadyH.cons hi (fun K hK => ?_) (AllReadyH.cons hj (fun K hK => ?_) AllReadyH.nil))
  · rw [if_pos hw]; unfold Oper.wp; rw [hy, Oper.upon_value, hd]; exact hK.out _ _ hE (fun _ => k _ (H.put hdN))
  · rw [if_pos hw2]; unfold Oper.wp; rw [hy2, Oper.upon_value, hd2]; exact hK.out _ _ hE2 (fun _ => k2 _ (H.put hdN2))
theorem k_three (i j m : Nat) (H : Has a N l) {d2 d3 : Nat} {v2 v3 : Value} {w2 w3 : World} (hr : Region.ready md ops listed = [i, j, m])
    (hi : ops[i]? = some o) (hw : Region.wanted o (yielded ops a.tmps) = true) (hd : o.dst = some d) (hdN : d < N) (hy : (execOp a.eval o).run P w = .ok (.value v) w') (hE : Ext w0 w')
    (hj : ops[j]? = some o2) (hw2 : Region.wanted o2 (yielded ops a.tmps) = true) (hd2 : o2.dst = some d2) (hdN2 : d2 < N) (hy2 : (execOp a.eval o2).run P w = .ok (.value v2) w2) (hE2 : Ext w0 w2)
    (hm : ops[m]? = some o3) (hw3 : Region.wanted o3 (yielded ops a.tmps) = true) (hd3 : o3.dst = some d3) (hdN3 : d3 < N) (hy3 : (execOp a.eval o3).run P w = .ok (.value v3) w3) (hE3 : Ext w0 w3)
    (k : ∀ a, Has a N ((d, v) :: l) → wpAnyH P md ops (OnlyN R) (Ext w0) fuel (listed.setIfInBounds i true) a w')
    (k2 : ∀ a, Has a N ((d2, v2) :: l) → wpAnyH P md ops (OnlyN R) (Ext w0) fuel (listed.setIfInBounds j true) a w2)
    (k3 : ∀ a, Has a N ((d3, v3) :: l) → wpAnyH P md ops (OnlyN R) (Ext w0) fuel (listed.setIfInBounds m true) a w3) : wpAnyH P md ops (OnlyN R) (Ext w0) (fuel + 1) listed a w := by
  refine wpAnyH_ready hr (by simp) (AllReadyH.cons hi (fun K hK => ?_) (AllReadyH.cons hj (fun K hK => ?_) (AllReadyH.cons hm (fun K hK => ?_) AllReadyH.nil)))
  · rw [if_pos hw]; unfold Oper.wp; rw [hy, Oper.upon_value, hd]; exact hK.out _ _ hE (fun _ => k _ (H.put hdN))
  · rw [if_pos hw2]; unfold Oper.wp; rw [hy2, Oper.upon_value, hd2]; exact hK.out _ _ hE2 (fun _ => k2 _ (H.put hdN2))
  · rw [if_pos hw3]; unfold Oper.wp; rw [hy3, Oper.upon_value, hd3]; exact hK.out _ _ hE3 (fun _ => k3 _ (H.put hdN3))
theorem k_done (hr : Region.ready md ops listed = []) (h : R a w) : wpAnyH P md ops (OnlyN R) (Ext w0) fuel listed a w := wpAnyH_done hr h fuel
end
theorem compare_any (a b : Option Addr) (n c m d : Nat) (p q : List UInt8) (w : World) (hp : Bs w a n p) (hq : Bs w b m q) :
    Calls Tryd.prog 45 #[.slice a n c, .slice b m d] w fun e w' => e = .returned (.int .i64 (Lib.compareBytes p q)) ∧ w' = w := by
  refine calls_has (args := [.slice a n c, .slice b m d]) Tryd.func45 rfl Tryd.ntmps45 (Nat.le_of_ble_eq_true rfl) (fun a H => ?_)
  simp only [argl, Nat.reduceAdd] at H
  refine wp_seq_k (fun K1 hK1 => ?_)
  refine e_region (fun R hR => ?_)
  refine e_op H rfl rfl (by decide) (x_assign H rfl rfl) ?_
  clear H a; intro a H
  refine e_nil (hR.out _ _ ?_)
  clear hR R
  refine hK1 _ _ ?_
  clear hK1 K1
  refine wp_seq_k (fun K2 hK2 => ?_)
  refine e_region (fun R hR => ?_)
  refine e_op H rfl rfl (by decide) (x_move H rfl rfl) ?_
  clear H a; intro a H
  refine e_op H rfl rfl (by decide) (x_move H rfl rfl) ?_
  clear H a; intro a H
  refine e_op H rfl rfl (by decide) (x_extern H rfl rfl (run54 hp hq)) ?_
  clear H a; intro a H
  refine e_op H rfl rfl (by decide) (x_assign H rfl rfl) ?_
  clear H a; intro a H
  refine e_nil (hR.out _ _ ?_)
  clear hR R
  refine hK2 _ _ ?_
  clear hK2 K2
  refine wp_ret ?_
  exact ret1 H rfl rfl ⟨rfl, rfl⟩
theorem less_any (x y : List UInt8) (hx : x.length = 32) (hy : y.length = 32) (b : Bool) (hb : blt x y = b) (w : World) :
    Calls Tryd.prog 22 #[.agg (u8s x).toArray, .agg (u8s y).toArray] w fun e w' => e = .returned (.bool b) ∧ Ext w w' := by
  unfold blt at hb
  refine calls_has (args := [.agg (u8s x).toArray, .agg (u8s y).toArray]) Tryd.func22 rfl Tryd.ntmps22 (Nat.le_of_ble_eq_true rfl) (fun a H => ?_)
  simp only [argl, Nat.reduceAdd] at H
  refine wp_seq_k (fun K1 hK1 => ?_)
  refine e_region (fun R hR => ?_)
  refine e_op H rfl rfl (by decide) (x_box H rfl rfl bx_new) ?_
  clear H a; intro a H
  have T2 := Blk.new w 26 (u8s x)
  have E2 := (Ext.refl w).al (.cells (u8s x).toArray 26)
  obtain ⟨g2, hg2⟩ : ∃ g, g = w.heap.size := ⟨_, rfl⟩
  rw [← hg2] at H T2
  have hs2 := E2.sz
  generalize w.alloc (.cells (u8s x).toArray 26) = w2 at *
  refine e_op H rfl rfl (by decide) (x_box H rfl rfl bx_new) ?_
  clear H a; intro a H
  have T3 := Blk.new w2 26 (u8s y)
  have E3 := E2.al (.cells (u8s y).toArray 26)
  replace T2 := T2.alloc (.cells (u8s y).toArray 26)
  obtain ⟨g3, hg3⟩ : ∃ g, g = w2.heap.size := ⟨_, rfl⟩
  rw [← hg3] at H T3
  have hs3 := E3.sz
  generalize w2.alloc (.cells (u8s y).toArray 26) = w3 at *
  refine e_op H rfl rfl (by decide) (x_assign H rfl rfl) ?_
  clear H a; intro a H
  refine e_nil (hR.out _ _ ?_)
  clear hR R
  refine hK1 _ _ ?_
  clear hK1 K1
  refine wp_seq_k (fun K2 hK2 => ?_)
  refine e_quiet (by kernel_rfl) (by kernel_rfl) (fun R hR => ?_)
  refine s_op H rfl rfl (by decide) (x_slice H rfl rfl rfl rfl (sl_arr_all Tryd.underlying26 Tryd.sizeOf5 (by omega))) ?_
  clear H a; intro a H
  refine s_op H rfl rfl (by decide) (x_slice H rfl rfl rfl rfl (sl_arr_all Tryd.underlying26 Tryd.sizeOf5 (by omega))) ?_
  clear H a; intro a H
  refine s_call H rfl rfl (by decide) rfl rfl (Tryd.call45 _) (compare_any _ _ _ _ _ _ x y _ (Blk.bs (T2 : Blk w3.drew g2 26 (u8s x)) hx) (Blk.bs (T3 : Blk w3.drew g3 26 (u8s y)) hy)) ?_
  clear H a; intro a H
  refine s_op H rfl rfl (by decide) (x_binI H rfl rfl rfl (b_lss (b := b) (hb))) ?_
  clear H a; intro a H
  refine s_op H rfl rfl (by decide) (x_assign H rfl rfl) ?_
  clear H a; intro a H
  refine wpStill_nil (hR.out _ _ ?_)
  clear hR R
  refine hK2 _ _ ?_
  clear hK2 K2
  refine wp_ret ?_
  exact ret1 H rfl rfl ⟨rfl, E3.dr⟩
theorem refless_any (x y : List UInt8) (hx : x.length = 32) (hy : y.length = 32) (b : Bool) (hb : blt x y = b) (w0 : World) :
    Calls Tryd.prog 23 #[.agg (u8s x).toArray, .agg (u8s y).toArray] w0 fun e w' => e = .returned (.bool b) ∧ Ext w0 w' := by
  refine calls_has (args := [.agg (u8s x).toArray, .agg (u8s y).toArray]) Tryd.func23 rfl Tryd.ntmps23 (Nat.le_of_ble_eq_true rfl) (fun a H => ?_)
  simp only [argl, Nat.reduceAdd] at H
  refine wp_seq_k (fun K1 hK1 => ?_)
  refine e_region (fun R hR => ?_)
  refine e_op H rfl rfl (by decide) (x_box H rfl rfl bx_new) ?_
  clear H a; intro a H
  have T2 := Blk.new w0 25 (u8s x)
  have E2 := (Ext.refl w0).al (.cells (u8s x).toArray 25)
  obtain ⟨g2, hg2⟩ : ∃ g, g = w0.heap.size := ⟨_, rfl⟩
  rw [← hg2] at H T2
  have hs2 := E2.sz
  generalize w0.alloc (.cells (u8s x).toArray 25) = w2 at *
  refine e_op H rfl rfl (by decide) (x_box H rfl rfl bx_new) ?_
  clear H a; intro a H
  have T3 := Blk.new w2 25 (u8s y)
  have E3 := E2.al (.cells (u8s y).toArray 25)
  replace T2 := T2.alloc (.cells (u8s y).toArray 25)
  obtain ⟨g3, hg3⟩ : ∃ g, g = w2.heap.size := ⟨_, rfl⟩
  rw [← hg3] at H T3
  have hs3 := E3.sz
  generalize w2.alloc (.cells (u8s y).toArray 25) = w3 at *
  refine e_op H rfl rfl (by decide) (x_assign H rfl rfl) ?_
  clear H a; intro a H
  refine e_nil (hR.out _ _ ?_)
  clear hR R
  refine hK1 _ _ ?_
  clear hK1 K1
  refine wp_seq_k (fun K2 hK2 => ?_)
  refine wp_seq_k (fun K3 hK3 => ?_)
  refine e_region (fun R hR => ?_)
  refine e_op H rfl rfl (by decide) (x_assign H rfl rfl) ?_
  clear H a; intro a H
  refine e_nil (hR.out _ _ ?_)
  clear hR R
  refine hK3 _ _ ?_
  clear hK3 K3
  refine wp_block ?_
  refine wp_loop_ghost (fun n a w => ∃ i : Nat, i ≤ 32 ∧ n = 32 - i ∧ Has a 24 [(2, .pointer (some ⟨g2, 0, none⟩)), (3, .pointer (some ⟨g3, 0, none⟩)), (5, .int .i64 (i : Int))] ∧ Lib.compareBytes x y = Lib.compareBytes (x.drop i) (y.drop i) ∧ Blk w g2 25 (u8s x) ∧ Blk w g3 25 (u8s y) ∧ Ext w0 w) (32) ?_ ?_
  · skip
    exact ⟨0, by omega, rfl, H.sub ⟨rfl, rfl, rfl, trivial⟩, rfl, T2, T3, E3⟩
  · skip
    clear H a T2 T3 E3
    intro n a w hI
    clear hs3 w3
    obtain ⟨i, hi, rfl, H, hc, T2, T3, E3⟩ := hI
    rcases (show (i < 32 ∧ bt x i = bt y i) ∨ (i < 32 ∧ bt x i ≠ bt y i) ∨ i = 32 by omega) with ⟨hlt, hxy⟩ | ⟨hlt, hxy⟩ | rfl
    · skip
      obtain ⟨u, hu⟩ : ∃ u, x[i]? = some u := ⟨_, List.getElem?_eq_getElem (by omega)⟩
      obtain ⟨v, hv⟩ : ∃ v, y[i]? = some v := ⟨_, List.getElem?_eq_getElem (by omega)⟩
      have lx : w.cell? ⟨g2, i, none⟩ = some (.int .u8 (u.toNat : Int)) := by rw [T2.cell, u8s_get x i (by omega), nb_bt]; simp [bt, hu]
      have ly : w.cell? ⟨g3, i, none⟩ = some (.int .u8 (v.toNat : Int)) := by rw [T3.cell, u8s_get y i (by omega), nb_bt]; simp [bt, hv]
      rw [drop_one hu, drop_one hv, cmp_cons] at hc
      replace hxy : u.toNat = v.toNat := by simpa [bt, hu, hv] using hxy
      rw [if_neg (by omega), if_neg (by omega)] at hc
      refine wp_seq_k (fun K4 hK4 => ?_)
      refine wp_seq_k (fun K5 hK5 => ?_)
      refine e_region (fun R hR => ?_)
      refine e_op H rfl rfl (by decide) (x_move H rfl rfl) ?_
      clear H a; intro a H
      refine e_op H rfl rfl (by decide) (x_binI H rfl rfl rfl (b_lss (b := true) (dec_t (by omega)))) ?_
      clear H a; intro a H
      refine e_nil (hR.out _ _ ?_)
      clear hR R
      refine hK5 _ _ ?_
      clear hK5 K5
      refine c_true H rfl ?_
      refine wp_skip ?_
      refine hK4 _ _ ?_
      clear hK4 K4
      refine wp_seq_k (fun K6 hK6 => ?_)
      refine wp_block ?_
      refine wp_seq_k (fun K7 hK7 => ?_)
      refine e_quiet (by kernel_rfl) (by kernel_rfl) (fun R hR => ?_)
      refine s_op H rfl rfl (by decide) (x_move H rfl rfl) ?_
      clear H a; intro a H
      refine s_op H rfl rfl (by decide) (x_indexAddr H rfl rfl rfl (i_arr0 (m := i) Tryd.underlying25 Tryd.sizeOf5 rfl (by omega))) ?_
      clear H a; intro a H
      refine s_op H rfl rfl (by decide) (x_load H rfl rfl (l_cell Tryd.isAgg5 (lx))) ?_
      clear H a; intro a H
      refine s_op H rfl rfl (by decide) (x_move H rfl rfl) ?_
      clear H a; intro a H
      refine s_op H rfl rfl (by decide) (x_indexAddr H rfl rfl rfl (i_arr0 (m := i) Tryd.underlying25 Tryd.sizeOf5 rfl (by omega))) ?_
      clear H a; intro a H
      refine s_op H rfl rfl (by decide) (x_load H rfl rfl (l_cell Tryd.isAgg5 (ly))) ?_
      clear H a; intro a H
      refine s_op H rfl rfl (by decide) (x_binI H rfl rfl rfl (b_neq (b := false) (by simp [hxy]))) ?_
      clear H a; intro a H
      refine wpStill_nil (hR.out _ _ ?_)
      clear hR R
      refine hK7 _ _ ?_
      clear hK7 K7
      refine c_false H rfl ?_
      refine wp_skip ?_
      refine hK6 _ _ ?_
      clear hK6 K6
      refine e_region (fun R hR => ?_)
      refine e_op H rfl rfl (by decide) (x_move H rfl rfl) ?_
      clear H a; intro a H
      refine e_op H rfl rfl (by decide) (x_binI H rfl rfl rfl (b_add (z := ((i + 1 : Nat) : Int)) (by rw [IntKind.wrap_i64]; omega))) ?_
      clear H a; intro a H
      refine e_op H rfl rfl (by decide) (x_assign H rfl rfl) ?_
      clear H a; intro a H
      refine e_nil (hR.out _ _ ?_)
      clear hR R
      exact ⟨32 - (i + 1), by omega, i + 1, by omega, rfl, H.sub ⟨rfl, rfl, rfl, trivial⟩, hc, T2, T3, E3.dr⟩
    · skip
      obtain ⟨u, hu⟩ : ∃ u, x[i]? = some u := ⟨_, List.getElem?_eq_getElem (by omega)⟩
      obtain ⟨v, hv⟩ : ∃ v, y[i]? = some v := ⟨_, List.getElem?_eq_getElem (by omega)⟩
      have lx : w.cell? ⟨g2, i, none⟩ = some (.int .u8 (u.toNat : Int)) := by rw [T2.cell, u8s_get x i (by omega), nb_bt]; simp [bt, hu]
      have ly : w.cell? ⟨g3, i, none⟩ = some (.int .u8 (v.toNat : Int)) := by rw [T3.cell, u8s_get y i (by omega), nb_bt]; simp [bt, hv]
      rw [drop_one hu, drop_one hv, cmp_cons] at hc
      replace hxy : u.toNat ≠ v.toNat := by simpa [bt, hu, hv] using hxy
      have hbl : blt x y = decide (u.toNat < v.toNat) := by
        unfold blt; rw [hc]
        rcases Nat.lt_or_ge u.toNat v.toNat with h | h
        · rw [if_pos h, decide_eq_true h]; rfl
        · rw [if_neg (by omega), if_pos (by omega)]; exact (decide_eq_false (p := u.toNat < v.toNat) (by omega)).symm
      have hbl : decide ((u.toNat : Int) < (v.toNat : Int)) = b := by rw [← hb, hbl]; simp
      refine wp_seq_k (fun K8 hK8 => ?_)
      refine wp_seq_k (fun K9 hK9 => ?_)
      refine e_region (fun R hR => ?_)
      refine e_op H rfl rfl (by decide) (x_move H rfl rfl) ?_
      clear H a; intro a H
      refine e_op H rfl rfl (by decide) (x_binI H rfl rfl rfl (b_lss (b := true) (dec_t (by omega)))) ?_
      clear H a; intro a H
      refine e_nil (hR.out _ _ ?_)
      clear hR R
      refine hK9 _ _ ?_
      clear hK9 K9
      refine c_true H rfl ?_
      refine wp_skip ?_
      refine hK8 _ _ ?_
      clear hK8 K8
      refine wp_seq_k (fun K10 hK10 => ?_)
      refine wp_block ?_
      refine wp_seq_k (fun K11 hK11 => ?_)
      refine e_quiet (by kernel_rfl) (by kernel_rfl) (fun R hR => ?_)
      refine s_op H rfl rfl (by decide) (x_move H rfl rfl) ?_
      clear H a; intro a H
      refine s_op H rfl rfl (by decide) (x_indexAddr H rfl rfl rfl (i_arr0 (m := i) Tryd.underlying25 Tryd.sizeOf5 rfl (by omega))) ?_
      clear H a; intro a H
      refine s_op H rfl rfl (by decide) (x_load H rfl rfl (l_cell Tryd.isAgg5 (lx))) ?_
      clear H a; intro a H
      refine s_op H rfl rfl (by decide) (x_move H rfl rfl) ?_
      clear H a; intro a H
      refine s_op H rfl rfl (by decide) (x_indexAddr H rfl rfl rfl (i_arr0 (m := i) Tryd.underlying25 Tryd.sizeOf5 rfl (by omega))) ?_
      clear H a; intro a H
      refine s_op H rfl rfl (by decide) (x_load H rfl rfl (l_cell Tryd.isAgg5 (ly))) ?_
      clear H a; intro a H
      refine s_op H rfl rfl (by decide) (x_binI H rfl rfl rfl (b_neq (b := true) (by simp; omega))) ?_
      clear H a; intro a H
      refine wpStill_nil (hR.out _ _ ?_)
      clear hR R
      refine hK11 _ _ ?_
      clear hK11 K11
      refine c_true H rfl ?_
      refine wp_seq_k (fun K12 hK12 => ?_)
      refine e_quiet (by kernel_rfl) (by kernel_rfl) (fun R hR => ?_)
      refine s_op H rfl rfl (by decide) (x_move H rfl rfl) ?_
      clear H a; intro a H
      refine s_op H rfl rfl (by decide) (x_indexAddr H rfl rfl rfl (i_arr0 (m := i) Tryd.underlying25 Tryd.sizeOf5 rfl (by omega))) ?_
      clear H a; intro a H
      refine s_op H rfl rfl (by decide) (x_load H rfl rfl (l_cell Tryd.isAgg5 (lx))) ?_
      clear H a; intro a H
      refine s_op H rfl rfl (by decide) (x_move H rfl rfl) ?_
      clear H a; intro a H
      refine s_op H rfl rfl (by decide) (x_indexAddr H rfl rfl rfl (i_arr0 (m := i) Tryd.underlying25 Tryd.sizeOf5 rfl (by omega))) ?_
      clear H a; intro a H
      refine s_op H rfl rfl (by decide) (x_load H rfl rfl (l_cell Tryd.isAgg5 (ly))) ?_
      clear H a; intro a H
      refine s_op H rfl rfl (by decide) (x_binI H rfl rfl rfl (b_lss (b := b) (hbl))) ?_
      clear H a; intro a H
      refine s_op H rfl rfl (by decide) (x_assign H rfl rfl) ?_
      clear H a; intro a H
      refine wpStill_nil (hR.out _ _ ?_)
      clear hR R
      refine hK12 _ _ ?_
      clear hK12 K12
      refine wp_ret ?_
      refine b_ret ?_
      refine t_ret ?_
      refine t_ret ?_
      refine b_ret ?_
      refine t_ret ?_
      exact ret1 H rfl rfl ⟨rfl, E3.dr.dr⟩
    · skip
      have hbf : false = b := by
        rw [← hb]; unfold blt; rw [hc, List.drop_of_length_le (by omega), List.drop_of_length_le (by omega)]; rfl
      subst hbf
      refine wp_seq_k (fun K13 hK13 => ?_)
      refine wp_seq_k (fun K14 hK14 => ?_)
      refine e_region (fun R hR => ?_)
      refine e_op H rfl rfl (by decide) (x_move H rfl rfl) ?_
      clear H a; intro a H
      refine e_op H rfl rfl (by decide) (x_binI H rfl rfl rfl (b_lss (b := false) (dec_f (by omega)))) ?_
      clear H a; intro a H
      refine e_nil (hR.out _ _ ?_)
      clear hR R
      refine hK14 _ _ ?_
      clear hK14 K14
      refine c_false H rfl ?_
      refine wp_exit ?_
      refine t_exit ?_
      refine t_exit ?_
      refine b_hit ?_
      clear hK13 K13
      refine hK2 _ _ ?_
      clear hK2 K2
      refine wp_seq_k (fun K15 hK15 => ?_)
      refine e_region (fun R hR => ?_)
      refine e_op H rfl rfl (by decide) (x_assign H rfl rfl) ?_
      clear H a; intro a H
      refine e_nil (hR.out _ _ ?_)
      clear hR R
      refine hK15 _ _ ?_
      clear hK15 K15
      refine wp_ret ?_
      exact ret1 H rfl rfl ⟨rfl, E3⟩
end Go.Proofs.YtknllmcpogoeoaaDoor
