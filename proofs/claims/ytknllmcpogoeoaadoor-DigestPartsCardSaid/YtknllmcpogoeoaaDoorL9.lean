/- DigestParts, walked. -/
import Derived.Test.YtknllmcpogoeoaaDoorL8
namespace Go.Proofs.YtknllmcpogoeoaaDoor
open Go.RowKit
set_option linter.unusedVariables false
set_option linter.unusedSimpArgs false
set_option maxRecDepth 100000
section
variable {P : Program} {a : Act} {N : Nat} {l : List (Nat × Value)} {w w' w0 : World} {o o2 : Oper} {v : Value} {R : Act → World → Prop} {ops : Array Oper} {d i fuel : Nat} {listed : Array Bool} {md : Region.Mode}
theorem k_take (i : Nat) (H : Has a N l) (hi : ops[i]? = some o) (hw : Region.wanted o (yielded ops a.tmps) = true) (hd : o.dst = some d) (hdN : d < N) (hs : Region.noSelect ops = true) (hf : Region.free md ops listed i = true) (hr : (Region.ready md ops listed).contains i = true)
    (hE : Ext w0 w) (hy : ∀ w', Ext w0 w' → (execOp a.eval o).run P w' = .ok (.value v) w')
    (k : ∀ a, Has a N ((d, v) :: l) → wpAnyH P md ops (OnlyN R) (Ext w0) fuel (listed.setIfInBounds i true) a w) : wpAnyH P md ops (OnlyN R) (Ext w0) (fuel + 1) listed a w := by
  refine wpAnyH_take hi hs hf hr (fun _ _ _ h => h) (Or.inl ⟨hw, hy⟩) hE ?_
  rw [hd]
  exact k _ (H.put hdN)
theorem k_call (i : Nat) (H : Has a N l) (hi : ops[i]? = some o) (hr : Region.ready md ops listed = [i]) (hw : Region.wanted o (yielded ops a.tmps) = true) (hd : o.dst = some d) (hdN : d < N) {f : FuncId} {xs : List Operand} {ts : Array TypeId} {vs : List Value}
    (ho : o.op = .call { callee := .value (.func f), args := xs.toArray, argTypes := ts }) (he : evs l xs = some vs) (hent : ∀ w, (callFunc f vs.toArray).run P w = .ok (.enter f vs.toArray) w)
    {S : Ending → World → Prop} (C : Calls P f vs.toArray w S)
    (k : ∀ e w', S e w' → ∃ v, e = .returned v ∧ Ext w0 w' ∧ ∀ a, Has a N ((d, v) :: l) → wpAnyH P md ops (OnlyN R) (Ext w0) fuel (listed.setIfInBounds i true) a w') : wpAnyH P md ops (OnlyN R) (Ext w0) (fuel + 1) listed a w := by
  refine wpAnyH_ready hr (by simp) (AllReadyH.cons hi (fun K hK => ?_) AllReadyH.nil)
  rw [if_pos hw]
  unfold Oper.wp
  rw [run_call H ho he (hent w), Oper.upon_enter]
  refine C.mono ?_
  intro e w1 hS
  obtain ⟨v, rfl, hE, h⟩ := k e w1 hS
  rw [hd]
  exact hK.out _ _ hE (fun _ => h _ (H.put hdN))
theorem k_twoc (i j : Nat) (H : Has a N l) (hr : Region.ready md ops listed = [i, j])
    (hi : ops[i]? = some o) (hw : Region.wanted o (yielded ops a.tmps) = true) (hd : o.dst = some d) (hdN : d < N) {f : FuncId} {xs : List Operand} {ts : Array TypeId} {vs : List Value}
    (ho : o.op = .call { callee := .value (.func f), args := xs.toArray, argTypes := ts }) (he : evs l xs = some vs) (hent : ∀ w, (callFunc f vs.toArray).run P w = .ok (.enter f vs.toArray) w)
    {S : Ending → World → Prop} (C : Calls P f vs.toArray w S) {d2 : Nat} {v2 : Value} {w2 : World}
    (hj : ops[j]? = some o2) (hw2 : Region.wanted o2 (yielded ops a.tmps) = true) (hd2 : o2.dst = some d2) (hdN2 : d2 < N) (hy2 : (execOp a.eval o2).run P w = .ok (.value v2) w2) (hE2 : Ext w0 w2)
    (k : ∀ e w', S e w' → ∃ v, e = .returned v ∧ Ext w0 w' ∧ ∀ a, Has a N ((d, v) :: l) → wpAnyH P md ops (OnlyN R) (Ext w0) fuel (listed.setIfInBounds i true) a w')
    (k2 : ∀ a, Has a N ((d2, v2) :: l) → wpAnyH P md ops (OnlyN R) (Ext w0) fuel (listed.setIfInBounds j true) a w2) : wpAnyH P md ops (OnlyN R) (Ext w0) (fuel + 1) listed a w := by
  refine wpAnyH_ready hr (by simp) (AllReadyH.cons hi (fun K hK => ?_) (AllReadyH.cons hj (fun K hK => ?_) AllReadyH.nil))
  · rw [if_pos hw]
    unfold Oper.wp
    rw [run_call H ho he (hent w), Oper.upon_enter]
    refine C.mono ?_
    intro e w1 hS
    obtain ⟨v, rfl, hE, h⟩ := k e w1 hS
    rw [hd]
    exact hK.out _ _ hE (fun _ => h _ (H.put hdN))
  · rw [if_pos hw2]; unfold Oper.wp; rw [hy2, Oper.upon_value, hd2]; exact hK.out _ _ hE2 (fun _ => k2 _ (H.put hdN2))
end
theorem el43p : ElemT 43 22 1 24 (.slice none 0 0) := ⟨Tryd.underlying43, by kernel_rfl, rfl, by decide⟩
theorem bs43 (v : Value) (a : Option Addr) (n c : Nat) (w : World) : (Instr.buildSlice 43 1 #[(0, .slice a n c)]).run Tryd.prog w = .ok (.slice (some ⟨w.heap.size, 0, none⟩) 1 1) (w.alloc (.cells #[.slice a n c] 22)) := by kernel_rfl
set_option maxHeartbeats 1000000 in
theorem digestParts_any (ad : Option Addr) (m c : Nat) (ls : List (List UInt8)) (x y : List UInt8) (W : World) (hl : Ls W ad m ls) (hc : m ≤ c) (hx : x.length = 32) (hy : y.length = 32) (K0 : Kc W) (h0 : 0 < W.heap.size) :
    Calls Tryd.prog 9 #[.slice ad m c, .agg (u8s x).toArray, .agg (u8s y).toArray] W fun e w' => e = .returned (.bool true) ∧ Ext W w' := by
  refine calls_has (args := [.slice ad m c, .agg (u8s x).toArray, .agg (u8s y).toArray]) Tryd.func9 rfl Tryd.ntmps9 (Nat.le_of_ble_eq_true rfl) (fun a H => ?_)
  simp only [argl, Nat.reduceAdd] at H
  refine wp_seq_k (fun K1 hK1 => ?_)
  refine e_region (fun R hR => ?_)
  refine e_op H rfl rfl (by decide) (x_box H rfl rfl bx_new) ?_
  clear H a; intro a H
  have T4 := Blk.new W 25 (u8s x)
  have Ex := (Ext.refl W).al (.cells (u8s x).toArray 25)
  obtain ⟨g4, hg4⟩ : ∃ g, g = W.heap.size := ⟨_, rfl⟩
  rw [← hg4] at H T4
  have hswx := Ex.sz
  have hlg4 := T4.lt
  generalize W.alloc (.cells (u8s x).toArray 25) = wx at *
  refine e_op H rfl rfl (by decide) (x_box H rfl rfl bx_new) ?_
  clear H a; intro a H
  have T5 := Blk.new wx 25 (u8s y)
  have Ey := Ex.al (.cells (u8s y).toArray 25)
  replace T4 := T4.alloc (.cells (u8s y).toArray 25)
  obtain ⟨g5, hg5⟩ : ∃ g, g = wx.heap.size := ⟨_, rfl⟩
  rw [← hg5] at H T5
  have hswy := Ey.sz
  have hlg5 := T5.lt
  generalize wx.alloc (.cells (u8s y).toArray 25) = wy at *
  refine e_op H rfl rfl (by decide) (x_assign H rfl rfl) ?_
  clear H a; intro a H
  refine e_nil (hR.out _ _ ?_)
  clear hR R
  refine hK1 _ _ ?_
  clear hK1 K1
  refine wp_seq_k (fun K2 hK2 => ?_)
  refine wp_seq_k (fun K3 hK3 => ?_)
  refine e_region (fun R hR => ?_)
  refine e_callq H rfl rfl (by decide) rfl rfl (Tryd.call14 _) (awake_any wy (K0.ext Ey) (by omega)) ?_
  clear H a
  rintro e wb ⟨rfl, EE⟩
  refine ⟨_, rfl, fun a H => ?_⟩
  have EB := Ey.tr EE
  have Kb := K0.ext EB
  replace T4 := T4.ext EE
  replace T5 := T5.ext EE
  replace hl := EB.ls hl
  have hll := hl.leng
  have hb0 := EB.sz
  clear EE Ex Ey hswx hswy
  refine e_op H rfl rfl (by decide) (x_un H rfl rfl (u_not (c := false) (rfl))) ?_
  clear H a; intro a H
  refine e_nil (hR.out _ _ ?_)
  clear hR R
  refine hK3 _ _ ?_
  clear hK3 K3
  refine c_false H rfl ?_
  refine wp_skip ?_
  refine hK2 _ _ ?_
  clear hK2 K2
  refine wp_seq_k (fun K4 hK4 => ?_)
  refine e_region (fun R hR => ?_)
  obtain ⟨m8, hm8⟩ : ∃ m8, m8 = min m 8 := ⟨_, rfl⟩
  refine e_op H rfl rfl (by decide) (x_move H rfl rfl) ?_
  clear H a; intro a H
  refine e_op H rfl rfl (by decide) (x_move H rfl rfl) ?_
  clear H a; intro a H
  refine e_op H rfl rfl (by decide) (x_builtin H rfl rfl (fun cs => len_sl Tryd.underlying43)) ?_
  clear H a; intro a H
  refine e_op H rfl rfl (by decide) (x_builtin H rfl rfl (fun cs => bi_min (z := (m8 : Int)) (by split <;> omega))) ?_
  clear H a; intro a H
  refine e_op H rfl rfl (by decide) (x_slice H rfl rfl rfl rfl (sl_hi (hi := m8) Tryd.underlying43 Tryd.sizeOf22 rfl (by omega))) ?_
  clear H a; intro a H
  refine e_op H rfl rfl (by decide) (x_assign H rfl rfl) ?_
  clear H a; intro a H
  refine e_nil (hR.out _ _ ?_)
  clear hR R
  refine hK4 _ _ ?_
  clear hK4 K4
  refine wp_seq_k (fun K5 hK5 => ?_)
  refine e_region (fun R hR => ?_)
  refine e_op H rfl rfl (by decide) (x_assign H rfl rfl) ?_
  clear H a; intro a H
  refine e_nil (hR.out _ _ ?_)
  clear hR R
  refine hK5 _ _ ?_
  clear hK5 K5
  refine wp_seq_k (fun K6 hK6 => ?_)
  refine wp_seq_k (fun K7 hK7 => ?_)
  refine e_region (fun R hR => ?_)
  refine e_op H rfl rfl (by decide) (x_move H rfl rfl) ?_
  clear H a; intro a H
  refine e_op H rfl rfl (by decide) (x_builtin H rfl rfl (fun cs => len_sl Tryd.underlying43)) ?_
  clear H a; intro a H
  refine e_op H rfl rfl (by decide) (x_move H rfl rfl) ?_
  clear H a; intro a H
  refine e_nil (hR.out _ _ ?_)
  clear hR R
  refine hK7 _ _ ?_
  clear hK7 K7
  refine wp_block ?_
  refine wp_loop_ghost (fun n a w => ∃ (i : Nat) (ap : Option Addr) (cp : Nat) (xs : List Value), i ≤ m8 ∧ n = m8 - i ∧ Has a 65 [(4, .pointer (some ⟨g4, 0, none⟩)), (5, .pointer (some ⟨g5, 0, none⟩)), (7, .slice ap i cp), (18, .slice ad m8 c), (19, .int .i64 (m8 : Int)), (20, .int .i64 (i : Int))] ∧ w.ownsRow wb.heap.size 22 1 (.slice ap i cp) i xs ∧ (∀ k, k < i → ∃ v, xs[k]? = some v ∧ Sl wb v ((ls[k]?.getD []).take 60)) ∧ Ext wb w) (m8) ?_ ?_
  · skip
    exact ⟨0, none, 0, [], by omega, rfl, H.sub ⟨rfl, rfl, rfl, rfl, rfl, rfl, trivial⟩, ⟨rfl, Or.inl ⟨rfl, rfl⟩⟩, fun k hk => by omega, Ext.refl wb⟩
  · skip
    clear H a
    intro n a w hI
    obtain ⟨i, ap, cp, xs, hi, rfl, H, O, hx2, EV⟩ := hI
    have hsv := EV.sz
    have hxl : xs.length = i := by have := O.1; omega
    rcases Nat.lt_or_ge i m8 with hlt | hge
    · skip
      obtain ⟨z, hz⟩ : ∃ z, ls[i]? = some z := ⟨_, List.getElem?_eq_getElem (by omega)⟩
      obtain ⟨b, off, az, nz, cz, rfl, hcz, hbz, hcc, hnz, hnb⟩ := hl.at i (by omega)
      rw [hz, Option.getD_some] at hbz
      have hzl := hbz.leng
      obtain ⟨mz, hmz⟩ : ∃ mz, mz = min nz 60 := ⟨_, rfl⟩
      refine wp_seq_k (fun K8 hK8 => ?_)
      refine e_region (fun R hR => ?_)
      refine e_op H rfl rfl (by decide) (x_binI H rfl rfl rfl (b_lss (b := true) (dec_t (by omega)))) ?_
      clear H a; intro a H
      refine e_nil (hR.out _ _ ?_)
      clear hR R
      refine hK8 _ _ ?_
      clear hK8 K8
      refine wp_seq_k (fun K9 hK9 => ?_)
      refine c_true H rfl ?_
      refine wp_skip ?_
      refine hK9 _ _ ?_
      clear hK9 K9
      refine wp_seq_k (fun K10 hK10 => ?_)
      refine wp_block ?_
      refine wp_seq_k (fun K11 hK11 => ?_)
      refine e_region (fun R hR => ?_)
      refine e_op H rfl rfl (by decide) (x_indexAddr H rfl rfl rfl (i_sl (m := i) Tryd.underlying43 Tryd.sizeOf22 (rfl) (hlt))) ?_
      clear H a; intro a H
      refine e_op H rfl rfl (by decide) (x_load H rfl rfl (l_cell Tryd.isAgg22 (EV.cell hcz))) ?_
      clear H a; intro a H
      refine e_op H rfl rfl (by decide) (x_assign H rfl rfl) ?_
      clear H a; intro a H
      refine e_nil (hR.out _ _ ?_)
      clear hR R
      refine hK11 _ _ ?_
      clear hK11 K11
      refine e_region (fun R hR => ?_)
      refine e_op H rfl rfl (by decide) (x_move H rfl rfl) ?_
      clear H a; intro a H
      refine e_op H rfl rfl (by decide) (x_move H rfl rfl) ?_
      clear H a; intro a H
      refine e_op H rfl rfl (by decide) (x_move H rfl rfl) ?_
      clear H a; intro a H
      refine e_op H rfl rfl (by decide) (x_builtin H rfl rfl (fun cs => len_sl Tryd.underlying22)) ?_
      clear H a; intro a H
      refine e_op H rfl rfl (by decide) (x_builtin H rfl rfl (fun cs => bi_min (z := (mz : Int)) (by split <;> omega))) ?_
      clear H a; intro a H
      refine e_op H rfl rfl (by decide) (x_slice H rfl rfl rfl rfl (sl_hi (hi := mz) Tryd.underlying22 Tryd.sizeOf5 rfl (by omega))) ?_
      clear H a; intro a H
      refine e_op H rfl rfl (by decide) (x_buildSlice H rfl rfl (bs43 .nilIface _ _ _ _)) ?_
      clear H a; intro a H
      obtain ⟨g9, c9, w9, hr9, O9, G9⟩ := run_appE el43p (w.alloc (.cells #[.slice az mz cz] 22)) 43 wb.heap.size ap i cp xs w.heap.size 1 1 [.slice az mz cz] (row_al O _) rfl (fun j u h => by rw [World.cell?_alloc_at _ _ _ _ rfl]; simpa using h) (by intro u hu; rw [List.mem_singleton.1 hu]; rfl) (by omega) (by omega) (by have := EV.sz; simp; omega) (by omega)
      have E9 := (EV.al (.cells #[.slice az mz cz] 22)).app (row_al O _) (Nat.le_refl _) G9
      refine e_op H rfl rfl (by decide) (x_builtin H rfl rfl (fun cs => bi_app hr9)) ?_
      clear H a; intro a H
      refine e_op H rfl rfl (by decide) (x_assign H rfl rfl) ?_
      clear H a; intro a H
      refine e_nil (hR.out _ _ ?_)
      clear hR R
      refine hK10 _ _ ?_
      clear hK10 K10
      refine e_region (fun R hR => ?_)
      refine e_op H rfl rfl (by decide) (x_binI H rfl rfl rfl (b_add (z := ((i + 1 : Nat) : Int)) (by rw [IntKind.wrap_i64]; omega))) ?_
      clear H a; intro a H
      refine e_op H rfl rfl (by decide) (x_move H rfl rfl) ?_
      clear H a; intro a H
      refine e_nil (hR.out _ _ ?_)
      clear hR R
      refine ⟨m8 - (i + 1), by omega, i + 1, some ⟨g9, 0, none⟩, c9, _, by omega, rfl, H.sub ⟨rfl, rfl, rfl, rfl, rfl, rfl, trivial⟩, O9, fun k hk => ?_, E9⟩
      rcases (show k < i ∨ k = i by omega) with hk2 | rfl
      · obtain ⟨v, hv, hs⟩ := hx2 k hk2
        exact ⟨v, by rw [List.getElem?_append_left (List.getElem?_eq_some_iff.1 hv).1]; exact hv, hs⟩
      · refine ⟨.slice az mz cz, by rw [List.getElem?_append_right (by omega), hxl, Nat.sub_self]; rfl, az, mz, cz, rfl, ?_, by omega, hnz, by omega⟩
        rw [hz, Option.getD_some, show z.take 60 = z.take mz by rw [List.take_eq_take_iff]; omega]
        exact hbz.pre mz (by omega)
    · skip
      obtain rfl : i = m8 := by omega
      obtain ⟨ys, hys⟩ : ∃ ys, ys = (List.range i).map (fun k => (ls[k]?.getD []).take 60) := ⟨_, rfl⟩
      have hLs : Ls w ap i ys := ⟨by simp [hys], fun k hk => by
        obtain ⟨v, hv, hs⟩ := hx2 k hk
        obtain ⟨g, e, hc⟩ := own_cell O hv
        refine ⟨g, 0, v, e, by rw [Nat.zero_add]; exact hc, ?_⟩
        rw [hys, List.getElem?_map, List.getElem?_range hk]
        exact hs.ext EV⟩
      have hy60 : ∀ y ∈ ys, y.length ≤ 60 := by
        intro y hy
        rw [hys] at hy
        obtain ⟨k, _, rfl⟩ := List.mem_map.1 hy
        rw [List.length_take]
        omega
      clear hys hx2 O hl
      refine wp_seq_k (fun K12 hK12 => ?_)
      refine e_region (fun R hR => ?_)
      refine e_op H rfl rfl (by decide) (x_binI H rfl rfl rfl (b_lss (b := false) (dec_f (by omega)))) ?_
      clear H a; intro a H
      refine e_nil (hR.out _ _ ?_)
      clear hR R
      refine hK12 _ _ ?_
      clear hK12 K12
      refine wp_seq_k (fun K13 hK13 => ?_)
      refine c_false H rfl ?_
      refine wp_exit ?_
      refine t_exit ?_
      refine t_exit ?_
      refine b_hit ?_
      clear hK13 K13
      refine hK6 _ _ ?_
      clear hK6 K6
      refine wp_seq_k (fun K14 hK14 => ?_)
      refine t_start (by kernel_rfl) (fun R hR => ?_)
      have EB2 := EB.tr EV.dr
      replace T4 : Blk w.drew g4 25 (u8s x) := T4.ext EV.dr
      replace T5 : Blk w.drew g5 25 (u8s y) := T5.ext EV.dr
      replace hLs := hLs.drew
      replace hsv := EB2.sz
      generalize w.drew = wd at *
      replace EV := Ext.refl wd
      refine t_take 1 H rfl rfl rfl (by decide) (by kernel_rfl) (by kernel_rfl) (by kernel_rfl) (fun w' => (x_slice H rfl rfl rfl rfl (sl_arr_all Tryd.underlying25 Tryd.sizeOf5 (by omega)))) ?_
      clear H a; intro a H
      refine t_take 3 H rfl rfl rfl (by decide) (by kernel_rfl) (by kernel_rfl) (by kernel_rfl) (fun w' => (x_slice H rfl rfl rfl rfl (sl_arr_all Tryd.underlying25 Tryd.sizeOf5 (by omega)))) ?_
      clear H a; intro a H
      obtain ⟨q, w1, hb1, Z1, EW, _, _⟩ := al1 EV (1 : UInt8) (i := 1) rfl
      refine t_one 0 H rfl (by kernel_rfl) (wanted_none rfl) rfl (by decide) (x_buildSlice H rfl rfl hb1) ?_
      clear H a; intro a H
      obtain ⟨a2, c2, w2, hr2, Z2, E2⟩ := ap1 EW Z1 ((T4.ext EW).bs hx) (cx := 32) (fun h => by cases h) (by omega)
      refine t_one 2 H rfl (by kernel_rfl) (wanted_none rfl) rfl (by decide) (x_builtin H rfl rfl (fun cs => bi_app hr2)) ?_
      clear H a; intro a H
      obtain ⟨a3, c3, w3, hr3, Z3, E3⟩ := ap1 E2 Z2 ((T5.ext E2).bs hy) (cx := 32) (fun h => by cases h) (by omega)
      refine t_one 4 H rfl (by kernel_rfl) (wanted_none rfl) rfl (by decide) (x_builtin H rfl rfl (fun cs => bi_app hr3)) ?_
      clear H a; intro a H
      refine t_take 5 H rfl rfl rfl (by decide) (by kernel_rfl) (by kernel_rfl) (by kernel_rfl) (fun w' => (x_assign H rfl rfl)) ?_
      clear H a; intro a H
      refine t_done (by kernel_rfl) (hR.out _ _ ?_)
      clear hR R
      refine hK14 _ _ ?_
      clear hK14 K14
      refine wp_seq_k (fun K15 hK15 => ?_)
      refine h_start (by kernel_rfl) (fun R hR => ?_)
      have EB3 := EB2.tr E3.dr
      replace T4 : Blk w3.drew g4 25 (u8s x) := T4.ext E3.dr
      replace T5 : Blk w3.drew g5 25 (u8s y) := T5.ext E3.dr
      have hLw := (E3.ls hLs).drew
      have hPb : Bs w3.drew a3 (1 + 32 + 32) ([1] ++ x ++ y) := (Ext.refl w3).dr.bs Z3.bs
      have hPc := Z3.cap
      have hb0 := EB3.sz
      have Kw := K0.ext EB3
      clear hLs Z1 Z2 Z3 hb1 hr2 hr3 EW E2 E3 EV EB2
      generalize w3.drew = wq at *
      have EV := Ext.refl wq
      refine k_take 0 H rfl (wanted_none rfl) rfl (by decide) (by kernel_rfl) (by kernel_rfl) (by kernel_rfl) EV (fun w' hSw => (x_move H rfl rfl)) ?_
      clear H a; intro a H
      refine k_take 2 H rfl (wanted_none rfl) rfl (by decide) (by kernel_rfl) (by kernel_rfl) (by kernel_rfl) EV (fun w' hSw => (x_move H rfl rfl)) ?_
      clear H a; intro a H
      refine k_call 1 H rfl (by kernel_rfl) (wanted_none rfl) rfl (by decide) rfl rfl (Tryd.call26 _) (parts_any _ _ _ ys _ (EV.ls hLw) (by omega) hy60 (Kw.ext EV) (by have := (EB3.tr EV).sz; omega)) ?_
      clear H a
      rintro e w11 ⟨rfl, EE⟩
      refine ⟨_, rfl, EV.tr EE, fun a H => ?_⟩
      replace EV := EV.tr EE
      (try replace Z := EE.row Z)
      have hsw := (EB3.tr EV).sz
      clear EE
      refine k_call 3 H rfl (by kernel_rfl) (wanted_none rfl) rfl (by decide) rfl rfl (Tryd.call27 _) (refparts_any _ _ _ ys _ (EV.ls hLw) (by omega) hy60) ?_
      clear H a
      rintro e w12 ⟨rfl, EE⟩
      refine ⟨_, rfl, EV.tr EE, fun a H => ?_⟩
      replace EV := EV.tr EE
      (try replace Z := EE.row Z)
      have hsw := (EB3.tr EV).sz
      clear EE
      refine k_take 4 H rfl (wanted_none rfl) rfl (by decide) (by kernel_rfl) (by kernel_rfl) (by kernel_rfl) EV (fun w' hSw => (x_bin H rfl rfl rfl eqg26 (eql26 (c := true) (sha_len _) (sha_len _) (by simp [cat])))) ?_
      clear H a; intro a H
      refine k_take 5 H rfl (wanted_none rfl) rfl (by decide) (by kernel_rfl) (by kernel_rfl) (by kernel_rfl) EV (fun w' hSw => (x_move H rfl rfl)) ?_
      clear H a; intro a H
      refine k_take 6 H rfl (wanted_true H rfl rfl rfl rfl) rfl (by decide) (by kernel_rfl) (by kernel_rfl) (by kernel_rfl) EV (fun w' hSw => (x_load H rfl rfl (l_row (T4.ext hSw) Tryd.underlying25 rfl (by rw [size_d x hx]; kernel_rfl)))) ?_
      clear H a; intro a H
      refine k_take 7 H rfl (wanted_true H rfl rfl rfl rfl) rfl (by decide) (by kernel_rfl) (by kernel_rfl) (by kernel_rfl) EV (fun w' hSw => (x_load H rfl rfl (l_row (T5.ext hSw) Tryd.underlying25 rfl (by rw [size_d y hy]; kernel_rfl)))) ?_
      clear H a; intro a H
      refine k_take 9 H rfl (wanted_true H rfl rfl rfl rfl) rfl (by decide) (by kernel_rfl) (by kernel_rfl) (by kernel_rfl) EV (fun w' hSw => (x_move H rfl rfl)) ?_
      clear H a; intro a H
      refine k_call 8 H rfl (by kernel_rfl) (wanted_true H rfl rfl rfl rfl) rfl (by decide) rfl rfl (Tryd.call28 _) (pair_any x y hx hy _ (Kw.ext EV) (by have := (EB3.tr EV).sz; omega)) ?_
      clear H a
      rintro e w13 ⟨rfl, EE⟩
      refine ⟨_, rfl, EV.tr EE, fun a H => ?_⟩
      replace EV := EV.tr EE
      (try replace Z := EE.row Z)
      have hsw := (EB3.tr EV).sz
      clear EE
      refine k_call 10 H rfl (by kernel_rfl) (wanted_true H rfl rfl rfl rfl) rfl (by decide) rfl rfl (Tryd.call17 _) (refsum_any _ _ _ _ _ (EV.bs hPb) hPc.2 (by omega)) ?_
      clear H a
      rintro e w14 ⟨rfl, EE⟩
      refine ⟨_, rfl, EV.tr EE, fun a H => ?_⟩
      replace EV := EV.tr EE
      (try replace Z := EE.row Z)
      have hsw := (EB3.tr EV).sz
      clear EE
      refine k_take 11 H rfl (wanted_true H rfl rfl rfl rfl) rfl (by decide) (by kernel_rfl) (by kernel_rfl) (by kernel_rfl) EV (fun w' hSw => (x_bin H rfl rfl rfl eqg26 (eql26 (c := true) (sha_len _) (sha_len _) (by simp [cat])))) ?_
      clear H a; intro a H
      refine k_take 12 H rfl (wanted_none rfl) rfl (by decide) (by kernel_rfl) (by kernel_rfl) (by kernel_rfl) EV (fun w' hSw => (x_pickT H rfl rfl rfl)) ?_
      clear H a; intro a H
      refine k_take 13 H rfl (wanted_none rfl) rfl (by decide) (by kernel_rfl) (by kernel_rfl) (by kernel_rfl) EV (fun w' hSw => (x_move H rfl rfl)) ?_
      clear H a; intro a H
      refine k_take 14 H rfl (wanted_true H rfl rfl rfl rfl) rfl (by decide) (by kernel_rfl) (by kernel_rfl) (by kernel_rfl) EV (fun w' hSw => (x_slice H rfl rfl rfl rfl (sl_arr_all Tryd.underlying25 Tryd.sizeOf5 (by omega)))) ?_
      clear H a; intro a H
      refine k_take 17 H rfl (wanted_true H rfl rfl rfl rfl) rfl (by decide) (by kernel_rfl) (by kernel_rfl) (by kernel_rfl) EV (fun w' hSw => (x_slice H rfl rfl rfl rfl (sl_arr_all Tryd.underlying25 Tryd.sizeOf5 (by omega)))) ?_
      clear H a; intro a H
      obtain ⟨q, w16, hb16, Z, EW, _, _⟩ := al1 EV (0 : UInt8) (i := 0) rfl
      refine k_twoc 15 16 H (by kernel_rfl) rfl (wanted_true H rfl rfl rfl rfl) rfl (by decide) rfl rfl (Tryd.call29 _) (leaf_any (some ⟨g4, 0, none⟩) 32 32 x _ ((T4.ext EV).bs hx) (Nat.le_refl _) (fun h => by cases h) (by omega) (Kw.ext EV) (by have := (EB3.tr EV).sz; omega)) rfl (wanted_true H rfl rfl rfl rfl) rfl (by decide) (x_buildSlice H rfl rfl hb16) EW ?_ ?_
      · skip
        clear H a
        rintro e w15 ⟨rfl, EE⟩
        refine ⟨_, rfl, EV.tr EE, fun a H => ?_⟩
        replace EV := EV.tr EE
        (try replace Z := EE.row Z)
        have hsw := (EB3.tr EV).sz
        clear EE
        obtain ⟨q, w16, hb16, Z, EW, _, _⟩ := al1 EV (0 : UInt8) (i := 0) rfl
        refine k_op 16 H rfl (by kernel_rfl) (wanted_true H rfl rfl rfl rfl) rfl (by decide) (x_buildSlice H rfl rfl hb16) EW ?_
        clear H a; intro a H
        replace EV := EW
        obtain ⟨a18, c18, w18, hr18, Z18, EX⟩ := ap1 EV Z ((T4.ext EV).bs hx) (cx := 32) (fun h => by cases h) (by omega)
        refine k_op 18 H rfl (by kernel_rfl) (wanted_true H rfl rfl rfl rfl) rfl (by decide) (x_builtin H rfl rfl (fun cs => bi_app hr18)) EX ?_
        clear H a; intro a H
        replace EV := EX
        clear Z
        refine k_call 19 H rfl (by kernel_rfl) (wanted_true H rfl rfl rfl rfl) rfl (by decide) rfl rfl (Tryd.call17 _) (refsum_any _ _ _ _ _ Z18.bs Z18.cap.2 (by omega)) ?_
        clear H a
        rintro e w19 ⟨rfl, EE⟩
        refine ⟨_, rfl, EV.tr EE, fun a H => ?_⟩
        replace EV := EV.tr EE
        (try replace Z := EE.row Z)
        have hsw := (EB3.tr EV).sz
        clear EE
        refine k_take 20 H rfl (wanted_true H rfl rfl rfl rfl) rfl (by decide) (by kernel_rfl) (by kernel_rfl) (by kernel_rfl) EV (fun w' hSw => (x_bin H rfl rfl rfl eqg26 (eql26 (c := true) (sha_len _) (sha_len _) (by simp [cat])))) ?_
        clear H a; intro a H
        refine k_take 21 H rfl (wanted_none rfl) rfl (by decide) (by kernel_rfl) (by kernel_rfl) (by kernel_rfl) EV (fun w' hSw => (x_pickT H rfl rfl rfl)) ?_
        clear H a; intro a H
        refine k_take 22 H rfl (wanted_none rfl) rfl (by decide) (by kernel_rfl) (by kernel_rfl) (by kernel_rfl) EV (fun w' hSw => (x_move H rfl rfl)) ?_
        clear H a; intro a H
        refine k_call 23 H rfl (by kernel_rfl) (wanted_true H rfl rfl rfl rfl) rfl (by decide) rfl rfl (Tryd.call26 _) (parts_any none 0 0 [] _ ⟨rfl, fun k hk => by omega⟩ (by omega) (fun y hy => by cases hy) (Kw.ext EV) (by have := (EB3.tr EV).sz; omega)) ?_
        clear H a
        rintro e w23 ⟨rfl, EE⟩
        refine ⟨_, rfl, EV.tr EE, fun a H => ?_⟩
        replace EV := EV.tr EE
        (try replace Z := EE.row Z)
        have hsw := (EB3.tr EV).sz
        clear EE
        refine k_call 24 H rfl (by kernel_rfl) (wanted_true H rfl rfl rfl rfl) rfl (by decide) rfl rfl (Tryd.call16 _) (dsum_any none 0 0 [] _ (Bs.nil _ _) (Nat.le_refl _) (fun _ => rfl) (Kw.ext EV) (by have := (EB3.tr EV).sz; omega) (by omega)) ?_
        clear H a
        rintro e w24 ⟨rfl, EE⟩
        refine ⟨_, rfl, EV.tr EE, fun a H => ?_⟩
        replace EV := EV.tr EE
        (try replace Z := EE.row Z)
        have hsw := (EB3.tr EV).sz
        clear EE
        refine k_take 25 H rfl (wanted_true H rfl rfl rfl rfl) rfl (by decide) (by kernel_rfl) (by kernel_rfl) (by kernel_rfl) EV (fun w' hSw => (x_bin H rfl rfl rfl eqg26 (eql26 (c := true) (sha_len _) (sha_len _) (by simp [cat])))) ?_
        clear H a; intro a H
        refine k_take 26 H rfl (wanted_none rfl) rfl (by decide) (by kernel_rfl) (by kernel_rfl) (by kernel_rfl) EV (fun w' hSw => (x_pickT H rfl rfl rfl)) ?_
        clear H a; intro a H
        refine k_take 27 H rfl (wanted_none rfl) rfl (by decide) (by kernel_rfl) (by kernel_rfl) (by kernel_rfl) EV (fun w' hSw => (x_assign H rfl rfl)) ?_
        clear H a; intro a H
        refine k_done (by kernel_rfl) (hR.out _ _ ?_)
        clear hR R
        refine hK15 _ _ ?_
        clear hK15 K15
        refine wp_ret ?_
        exact ret1 H rfl rfl ⟨rfl, EB3.tr EV⟩
      · skip
        clear H a; intro a H
        replace EV := EW
        refine k_call 15 H rfl (by kernel_rfl) (wanted_true H rfl rfl rfl rfl) rfl (by decide) rfl rfl (Tryd.call29 _) (leaf_any (some ⟨g4, 0, none⟩) 32 32 x _ ((T4.ext EV).bs hx) (Nat.le_refl _) (fun h => by cases h) (by omega) (Kw.ext EV) (by have := (EB3.tr EV).sz; omega)) ?_
        clear H a
        rintro e w15 ⟨rfl, EE⟩
        refine ⟨_, rfl, EV.tr EE, fun a H => ?_⟩
        replace EV := EV.tr EE
        (try replace Z := EE.row Z)
        have hsw := (EB3.tr EV).sz
        clear EE
        obtain ⟨a18, c18, w18, hr18, Z18, EX⟩ := ap1 EV Z ((T4.ext EV).bs hx) (cx := 32) (fun h => by cases h) (by omega)
        refine k_op 18 H rfl (by kernel_rfl) (wanted_true H rfl rfl rfl rfl) rfl (by decide) (x_builtin H rfl rfl (fun cs => bi_app hr18)) EX ?_
        clear H a; intro a H
        replace EV := EX
        clear Z
        refine k_call 19 H rfl (by kernel_rfl) (wanted_true H rfl rfl rfl rfl) rfl (by decide) rfl rfl (Tryd.call17 _) (refsum_any _ _ _ _ _ Z18.bs Z18.cap.2 (by omega)) ?_
        clear H a
        rintro e w19 ⟨rfl, EE⟩
        refine ⟨_, rfl, EV.tr EE, fun a H => ?_⟩
        replace EV := EV.tr EE
        (try replace Z := EE.row Z)
        have hsw := (EB3.tr EV).sz
        clear EE
        refine k_take 20 H rfl (wanted_true H rfl rfl rfl rfl) rfl (by decide) (by kernel_rfl) (by kernel_rfl) (by kernel_rfl) EV (fun w' hSw => (x_bin H rfl rfl rfl eqg26 (eql26 (c := true) (sha_len _) (sha_len _) (by simp [cat])))) ?_
        clear H a; intro a H
        refine k_take 21 H rfl (wanted_none rfl) rfl (by decide) (by kernel_rfl) (by kernel_rfl) (by kernel_rfl) EV (fun w' hSw => (x_pickT H rfl rfl rfl)) ?_
        clear H a; intro a H
        refine k_take 22 H rfl (wanted_none rfl) rfl (by decide) (by kernel_rfl) (by kernel_rfl) (by kernel_rfl) EV (fun w' hSw => (x_move H rfl rfl)) ?_
        clear H a; intro a H
        refine k_call 23 H rfl (by kernel_rfl) (wanted_true H rfl rfl rfl rfl) rfl (by decide) rfl rfl (Tryd.call26 _) (parts_any none 0 0 [] _ ⟨rfl, fun k hk => by omega⟩ (by omega) (fun y hy => by cases hy) (Kw.ext EV) (by have := (EB3.tr EV).sz; omega)) ?_
        clear H a
        rintro e w23 ⟨rfl, EE⟩
        refine ⟨_, rfl, EV.tr EE, fun a H => ?_⟩
        replace EV := EV.tr EE
        (try replace Z := EE.row Z)
        have hsw := (EB3.tr EV).sz
        clear EE
        refine k_call 24 H rfl (by kernel_rfl) (wanted_true H rfl rfl rfl rfl) rfl (by decide) rfl rfl (Tryd.call16 _) (dsum_any none 0 0 [] _ (Bs.nil _ _) (Nat.le_refl _) (fun _ => rfl) (Kw.ext EV) (by have := (EB3.tr EV).sz; omega) (by omega)) ?_
        clear H a
        rintro e w24 ⟨rfl, EE⟩
        refine ⟨_, rfl, EV.tr EE, fun a H => ?_⟩
        replace EV := EV.tr EE
        (try replace Z := EE.row Z)
        have hsw := (EB3.tr EV).sz
        clear EE
        refine k_take 25 H rfl (wanted_true H rfl rfl rfl rfl) rfl (by decide) (by kernel_rfl) (by kernel_rfl) (by kernel_rfl) EV (fun w' hSw => (x_bin H rfl rfl rfl eqg26 (eql26 (c := true) (sha_len _) (sha_len _) (by simp [cat])))) ?_
        clear H a; intro a H
        refine k_take 26 H rfl (wanted_none rfl) rfl (by decide) (by kernel_rfl) (by kernel_rfl) (by kernel_rfl) EV (fun w' hSw => (x_pickT H rfl rfl rfl)) ?_
        clear H a; intro a H
        refine k_take 27 H rfl (wanted_none rfl) rfl (by decide) (by kernel_rfl) (by kernel_rfl) (by kernel_rfl) EV (fun w' hSw => (x_assign H rfl rfl)) ?_
        clear H a; intro a H
        refine k_done (by kernel_rfl) (hR.out _ _ ?_)
        clear hR R
        refine hK15 _ _ ?_
        clear hK15 K15
        refine wp_ret ?_
        exact ret1 H rfl rfl ⟨rfl, EB3.tr EV⟩
end Go.Proofs.YtknllmcpogoeoaaDoor
