/- RingPlays, walked. -/
import Derived.Test.YtknllmcpogoeoaaR24
import Derived.Test.YtknllmcpogoeoaaR18
namespace Go.Proofs.Ytknllmcpogoeoaa
open Go.RowKit
set_option linter.unusedVariables false
set_option linter.unusedSimpArgs false
set_option maxRecDepth 100000
section
variable {P : Program} {a : Act} {N : Nat} {l : List (Nat × Value)} {w w2 : World} {o o2 : Oper} {R : Act → World → Prop} {ops : Array Oper} {d fuel : Nat} {listed : Array Bool} {md : Region.Mode} {S : World → Prop}
/-- a call, or a plain operation behind it in number -/
theorem g_twoc2 (i j : Nat) (H : Has a N l) {d2 : Nat} {v2 : Value} (hr : Region.ready md ops listed = [i, j])
    (hi : ops[i]? = some o) (hw : Region.wanted o (yielded ops a.tmps) = true) (hd : o.dst = some d) (hdN : d < N) {f : FuncId} {xs : List Operand} {ts : Array TypeId} {vs : List Value}
    (ho : o.op = .call { callee := .value (.func f), args := xs.toArray, argTypes := ts }) (he : evs l xs = some vs) (hent : ∀ w, (callFunc f vs.toArray).run P w = .ok (.enter f vs.toArray) w)
    {T : Ending → World → Prop} (C : Calls P f vs.toArray w T)
    (hj : ops[j]? = some o2) (hw2 : Region.wanted o2 (yielded ops a.tmps) = true) (hd2 : o2.dst = some d2) (hdN2 : d2 < N) (hy2 : (execOp a.eval o2).run P w = .ok (.value v2) w2) (hE2 : S w2)
    (k : ∀ e w', T e w' → ∃ v, e = .returned v ∧ S w' ∧ ∀ a, Has a N ((d, v) :: l) → wpAnyH P md ops (OnlyN R) S fuel (listed.setIfInBounds i true) a w')
    (k2 : ∀ a, Has a N ((d2, v2) :: l) → wpAnyH P md ops (OnlyN R) S fuel (listed.setIfInBounds j true) a w2) : wpAnyH P md ops (OnlyN R) S (fuel + 1) listed a w := by
  refine wpAnyH_ready hr (by simp) (AllReadyH.cons hi (fun K hK => ?_) (AllReadyH.cons hj (fun K hK => ?_) AllReadyH.nil))
  · rw [if_pos hw]
    unfold Oper.wp
    rw [run_call H ho he (hent w), Oper.upon_enter]
    refine C.mono ?_
    intro e w1 hS
    obtain ⟨v, rfl, hE, h⟩ := k e w1 hS
    rw [hd]
    exact hK.out _ _ hE (fun _ => h _ (H.put hdN))
  · rw [if_pos hw2]; unfold Oper.wp; rw [hy2, Oper.upon_value, hd2]; exact hK.out _ _ hE2 (fun _ => k2 _ (H.put hdN2))
end
theorem bld135 (cap : Int) (w : World) : (Instr.build 135 #[(0, .int .i64 cap)]).run Try.prog w = .ok (.agg (rfCells ⟨cap, 0, [], false, 0, 0, 0⟩ (.slice none 0 0)).toArray) w := by kernel_rfl
section
variable {w w' : World} {B g k : Nat} {v : Value} {ps : List (Rcd × Value)} {r : Rg}
theorem Rn.notin (R0 : Rn w B g v ps r) (h1 : ∀ cur f, w.heap[k]? ≠ some (.cells cur 191 f)) (h2 : ∀ cur f, w.heap[k]? ≠ some (.cells cur 95 f)) : k ∉ g :: v.ownBlock.toList := by
  intro h
  rcases List.mem_cons.1 h with rfl | h
  · exact h1 _ _ R0.blk
  · obtain ⟨_, _, cur, hc⟩ := R0.lst.row.blk k (by simpa using h)
    exact h2 _ _ hc
theorem Blk.notT {t : TypeId} {cs : List Value} {t' : TypeId} (h : Blk w k t cs) (hne : t ≠ t') : ∀ cur f, w.heap[k]? ≠ some (.cells cur t' f) := by
  intro cur f e
  unfold Blk at h
  rw [h] at e
  simp at e
  exact hne e.2.1
theorem map_not {b n : Nat} {D : DataW Value} (h : w.ownsMap Try.prog 56 hld b n D) : ∀ cur (t' : TypeId) f, w.heap[b]? ≠ some (.cells cur t' f) := by
  obtain ⟨es, clock, hb, _⟩ := h
  intro cur t' f e
  rw [hb] at e
  cases e
theorem map_ext {b n : Nat} {D : DataW Value} (h : w.ownsMap Try.prog 56 hld b n D) (E : Ext w w') : w'.ownsMap Try.prog 56 hld b n D := map_heap h (E.block b h.lt)
/-- a block that is none of the ring's may turn -/
theorem Rn.one {gx : Nat} (R0 : Rn w B g v ps r) (F : Frm [gx] w w') (h1 : ∀ cur f, w.heap[gx]? ≠ some (.cells cur 191 f)) (h2 : ∀ cur f, w.heap[gx]? ≠ some (.cells cur 95 f)) (h3 : ∀ cur f, w.heap[gx]? ≠ some (.cells cur 2 f)) : Rn w' B g v ps r :=
  R0.frm F (by simp only [List.mem_singleton]; rintro rfl; exact h1 _ _ R0.blk) (fun k hk => by
    simp only [List.mem_singleton]
    rintro rfl
    obtain ⟨_, _, cur, hc⟩ := R0.lst.row.blk k hk
    exact h2 _ _ hc) (fun b hb cur e => by simp only [List.mem_singleton] at hb; subst hb; exact h3 _ _ e)
theorem Rl.one_ {gx : Nat} (RL : Rl w B v ps) (F : Frm [gx] w w') (h2 : ∀ cur f, w.heap[gx]? ≠ some (.cells cur 95 f)) (h3 : ∀ cur f, w.heap[gx]? ≠ some (.cells cur 2 f)) : Rl w' B v ps :=
  RL.frm F (fun k hk => by
    simp only [List.mem_singleton]
    rintro rfl
    obtain ⟨_, _, cur, hc⟩ := RL.row.blk k hk
    exact h2 _ _ hc) (fun b hb cur e => by simp only [List.mem_singleton] at hb; subst hb; exact h3 _ _ e)
theorem It.one {gx : Nat} {xs : List Itm} (IT : It w B v xs) (F : Frm [gx] w w') (h : ∀ cur f, w.heap[gx]? ≠ some (.cells cur 141 f)) : It w' B v xs :=
  Sr.frm IT F (fun k hk => by
    simp only [List.mem_singleton]
    rintro rfl
    obtain ⟨_, _, cur, hc⟩ := Sr.blk IT k hk
    exact h _ _ hc)
theorem copy_135 (w : World) (cs : List Value) : Blk ((w.alloc (.cells zero135.toArray 135)).setRow w.heap.size cs.toArray) w.heap.size 135 cs ∧ Ext w ((w.alloc (.cells zero135.toArray 135)).setRow w.heap.size cs.toArray) :=
  ⟨(Blk.new w 135 zero135).row _, ((Ext.refl w).al _).row_ (Nat.le_refl _) _⟩
theorem copy_141 (w : World) (cs : List Value) : Blk ((w.alloc (.cells zero141.toArray 141)).setRow w.heap.size cs.toArray) w.heap.size 141 cs ∧ Ext w ((w.alloc (.cells zero141.toArray 141)).setRow w.heap.size cs.toArray) :=
  ⟨(Blk.new w 141 zero141).row _, ((Ext.refl w).al _).row_ (Nat.le_refl _) _⟩
end
theorem put_len {r : Rg} {x : Rcd} (hg : x.good = true) (h3 : x.what ≠ 3) : (r.put x).1.list.length ≤ r.list.length + 1 := by
  rcases code_cases (r := r) hg h3 with ⟨hc, _⟩ | ⟨hc, _⟩
  · rw [(put_of hc).1]
    show ((r.list ++ [x]).drop _).length ≤ _
    rw [List.length_drop, List.length_append]
    simp only [List.length_cons, List.length_nil]
    omega
  · rw [put_err_of hc]
    show r.list.length ≤ _
    omega
theorem put_cap {r : Rg} {x : Rcd} : (r.put x).1.cap = r.cap := by
  unfold Rg.put
  split <;> rfl
theorem mp_put {r : Rg} {y : Rcd} {u : Value} {qs : List (Rcd × Value)} {D : DataW Value} (M : Mp r qs D) (L : Lv r) (hy : Okr y) (hc : r.code y = 0) (hq : (y, u) ∈ qs) (hD : Maps.IsMap D) : Mp (r.put y).1 qs (D.put (.int .u64 (y.idx : Int)) (.held (.agg (y.cells u).toArray))) := by
  rw [(put_of hc).1]
  intro x hx
  have hx2 : x ∈ r.list ++ [y] := List.mem_of_mem_drop hx
  rcases List.mem_append.1 hx2 with h | h
  · obtain ⟨u2, h1, h2⟩ := M x h
    refine ⟨u2, h1, ?_⟩
    rw [Maps.atKey_put_other]
    · exact h2
    · have hb : r.begun = true := by
        cases hb : r.begun with
        | true => rfl
        | false => rw [(L.nb hb).1] at h; cases h
      obtain ⟨n0, hch, _⟩ := L.ch hb
      have hlt := chain_lt _ _ _ hch x h
      rcases code_cases (r := r) hy.good (by rcases hy.what with h | h <;> omega) with ⟨_, hbg⟩ | ⟨hc2, _⟩
      · have := (hbg hb).2
        intro e
        simp only [Lit.int.injEq, true_and] at e
        omega
      · omega
  · rw [List.mem_singleton] at h
    subst h
    exact ⟨u, hq, Maps.atKey_put_same hD (by trivial) _ _⟩
set_option maxHeartbeats 1600000 in
theorem ringPlays_any (ca comp first : Nat) (pa : Option Addr) (len pc : Nat) (ss : List RStep) (w0 : World) (hr : Rt w0 pa len ss) (ha : ca ≤ 65535) (hc : comp ≤ 255) (hf : first ≤ 4294967295) :
    Calls Try.prog 25 #[.int .u16 (ca : Int), .agg (plCells comp first (.slice pa len pc)).toArray] w0 fun e w' => e = .returned (.bool true) ∧ Ext w0 w' := by
  have hss : ∀ s ∈ ss, s.ok := fun s hs => by
    obtain ⟨k, hk⟩ := List.getElem?_of_mem hs
    exact (hr.cell k s hk).1
  refine calls_has (args := [.int .u16 (ca : Int), .agg (plCells comp first (.slice pa len pc)).toArray]) Try.func25 rfl Try.ntmps25 (Nat.le_of_ble_eq_true rfl) (fun a H => ?_)
  simp only [argl, Nat.reduceAdd] at H
  refine wp_seq_k (fun K1 hK1 => ?_)
  refine e_region (fun R hR => ?_)
  refine e_op H rfl rfl (by decide) (x_box H rfl rfl bx_new) ?_
  clear H a; intro a H
  have B3 := Blk.new w0 80 (plCells comp first (.slice pa len pc))
  have E1 := (Ext.refl w0).al (.cells (plCells comp first (.slice pa len pc)).toArray 80)
  obtain ⟨g3, hg3⟩ : ∃ g, g = w0.heap.size := ⟨_, rfl⟩
  rw [← hg3] at H B3
  generalize w0.alloc (.cells (plCells comp first (.slice pa len pc)).toArray 80) = w1 at *
  refine e_op H rfl rfl (by decide) (x_assign H rfl rfl) ?_
  clear H a; intro a H
  refine e_nil (hR.out _ _ ?_)
  clear hR R
  refine hK1 _ _ ?_
  clear hK1 K1
  refine wp_seq_k (fun K2 hK2 => ?_)
  refine wp_seq_k (fun K3 hK3 => ?_)
  refine e_region (fun R hR => ?_)
  refine e_callq H rfl rfl (by decide) rfl rfl (Try.call65 _) (rawake_any w1) ?_
  clear H a
  rintro e w2 ⟨rfl, F2⟩
  refine ⟨_, rfl, fun a H => ?_⟩
  have E2 := E1.tr F2
  replace B3 := B3.ext F2
  refine e_op H rfl rfl (by decide) (x_un H rfl rfl (u_not (c := false) (rfl))) ?_
  clear H a; intro a H
  refine e_nil (hR.out _ _ ?_)
  clear hR R
  refine hK3 _ _ ?_
  clear hK3 K3
  refine c_false H rfl ?_
  refine wp_skip ?_
  refine hK2 _ _ ?_
  clear hK2 K2
  refine wp_seq_k (fun K4 hK4 => ?_)
  refine e_region (fun R hR => ?_)
  refine e_op H rfl rfl (by decide) (x_move H rfl rfl) ?_
  clear H a; intro a H
  refine e_op H rfl rfl (by decide) (x_binI H rfl rfl rfl (b_rem (z := ((ca % 300 : Nat) : Int)) (by decide) (by rw [Int.tmod_eq_emod_of_nonneg (by omega)]; omega))) ?_
  clear H a; intro a H
  refine e_op H rfl rfl (by decide) (x_conv H rfl rfl (c_int (z := ((ca % 300 : Nat) : Int)) Try.underlying47 Try.underlying3 (by rw [IntKind.wrap_i64]; omega))) ?_
  clear H a; intro a H
  refine e_op H rfl rfl (by decide) (x_binI H rfl rfl rfl (b_add (z := (1 + ((ca % 300 : Nat) : Int))) (by rw [IntKind.wrap_i64]; omega))) ?_
  clear H a; intro a H
  refine e_callq H rfl rfl (by decide) rfl rfl (Try.call66 _) (newRn (1 + ((ca % 300 : Nat) : Int)) w2 (by omega) (by omega) w0.heap.size E2.sz) ?_
  clear H a
  rintro e w3 ⟨gr, rfl, Rr, F3, hgr⟩
  refine ⟨_, rfl, fun a H => ?_⟩
  have E3 := E2.tr F3
  replace B3 := B3.ext F3
  refine e_op H rfl rfl (by decide) (x_move H rfl rfl) ?_
  clear H a; intro a H
  refine e_op H rfl rfl (by decide) (x_ext0 H rfl rfl) ?_
  clear H a; intro a H
  refine e_op H rfl rfl (by decide) (x_ext1 H rfl rfl) ?_
  clear H a; intro a H
  refine e_op H rfl rfl (by decide) (x_assign H rfl rfl) ?_
  clear H a; intro a H
  refine e_op H rfl rfl (by decide) (x_assign H rfl rfl) ?_
  clear H a; intro a H
  refine e_nil (hR.out _ _ ?_)
  clear hR R
  refine hK4 _ _ ?_
  clear hK4 K4
  refine wp_seq_k (fun K5 hK5 => ?_)
  refine wp_seq_k (fun K6 hK6 => ?_)
  refine e_region (fun R hR => ?_)
  refine e_op H rfl rfl (by decide) (x_move H rfl rfl) ?_
  clear H a; intro a H
  refine e_op H rfl rfl (by decide) (x_binI H rfl rfl rfl (b_neq (b := false) (rfl))) ?_
  clear H a; intro a H
  refine e_op H rfl rfl (by decide) (x_move H rfl rfl) ?_
  clear H a; intro a H
  refine e_opg H (wanted_true H rfl rfl rfl rfl) rfl (by decide) (x_move H rfl rfl) ?_
  clear H a; intro a H
  refine e_opg H (wanted_true H rfl rfl rfl rfl) rfl (by decide) (x_bin H rfl rfl rfl (by rw [eqGuard_at_pointer]; rfl) (b_pnil (c := false) under81 rfl)) ?_
  clear H a; intro a H
  refine e_op H rfl rfl (by decide) (x_pickF H rfl rfl rfl) ?_
  clear H a; intro a H
  refine e_nil (hR.out _ _ ?_)
  clear hR R
  refine hK6 _ _ ?_
  clear hK6 K6
  refine c_false H rfl ?_
  refine wp_skip ?_
  refine hK5 _ _ ?_
  clear hK5 K5
  refine wp_seq_k (fun K7 hK7 => ?_)
  refine e_region (fun R hR => ?_)
  refine e_op H rfl rfl (by decide) (x_move H rfl rfl) ?_
  clear H a; intro a H
  refine e_op H rfl rfl (by decide) (x_binI H rfl rfl rfl (b_rem (z := ((ca % 300 : Nat) : Int)) (by decide) (by rw [Int.tmod_eq_emod_of_nonneg (by omega)]; omega))) ?_
  clear H a; intro a H
  refine e_op H rfl rfl (by decide) (x_conv H rfl rfl (c_int (z := ((ca % 300 : Nat) : Int)) Try.underlying47 Try.underlying3 (by rw [IntKind.wrap_i64]; omega))) ?_
  clear H a; intro a H
  refine e_op H rfl rfl (by decide) (x_binI H rfl rfl rfl (b_add (z := (1 + ((ca % 300 : Nat) : Int))) (by rw [IntKind.wrap_i64]; omega))) ?_
  clear H a; intro a H
  refine e_op H rfl rfl (by decide) (x_build H rfl rfl (bld135 _ _)) ?_
  clear H a; intro a H
  refine e_op H rfl rfl (by decide) (x_alloc H rfl (al_new (z135 _))) ?_
  clear H a; intro a H
  refine e_st H rfl rfl (x_store H rfl rfl rfl (st_row (Blk.new w3 135 zero135) (by kernel_rfl) (by rfl) (by simp [Value.oneCell', rfCells]))) ?_
  obtain ⟨D7, F4⟩ := copy_135 w3 (rfCells ⟨(1 + ((ca % 300 : Nat) : Int)), 0, [], false, 0, 0, 0⟩ (.slice none 0 0))
  obtain ⟨g7, hg7⟩ : ∃ g, g = w3.heap.size := ⟨_, rfl⟩
  have hlo7 : w0.heap.size ≤ g7 := by have := E3.sz; omega
  rw [← hg7] at H D7 F4
  rw [← hg7]
  generalize (w3.alloc (.cells zero135.toArray 135)).setRow g7 (rfCells ⟨(1 + ((ca % 300 : Nat) : Int)), 0, [], false, 0, 0, 0⟩ (.slice none 0 0)).toArray = w4 at *
  have E4 := E3.tr F4
  replace B3 := B3.ext F4
  replace Rr := Rr.ext F4
  refine e_nil (hR.out _ _ ?_)
  clear hR R
  refine hK7 _ _ ?_
  clear hK7 K7
  refine wp_seq_k (fun K8 hK8 => ?_)
  refine e_region (fun R hR => ?_)
  refine e_op H rfl rfl (by decide) (x_makeMap H rfl (mk136 _)) ?_
  clear H a; intro a H
  have HM := World.ownsMap_made w4 Try.prog 56 hld
  have F5 := (Ext.refl w4).al (.map #[] 0)
  obtain ⟨gm, hgm⟩ : ∃ g, g = w4.heap.size := ⟨_, rfl⟩
  have hlom : w0.heap.size ≤ gm := by have := E4.sz; omega
  rw [← hgm] at H HM
  generalize w4.alloc (.map #[] 0) = w5 at *
  have E5 := E4.tr F5
  replace B3 := B3.ext F5
  replace Rr := Rr.ext F5
  replace D7 := D7.ext F5
  refine e_op H rfl rfl (by decide) (x_assign H rfl rfl) ?_
  clear H a; intro a H
  refine e_nil (hR.out _ _ ?_)
  clear hR R
  refine hK8 _ _ ?_
  clear hK8 K8
  refine wp_seq_k (fun K9 hK9 => ?_)
  refine wp_seq_k (fun K10 hK10 => ?_)
  refine e_region (fun R hR => ?_)
  refine e_op H rfl rfl (by decide) (x_load H rfl rfl (l_part (cs := plCells comp first (.slice pa len pc)) isAgg80 size80 (fun j v hv => by rw [B3.cell, Nat.zero_add]; exact hv))) ?_
  clear H a; intro a H
  refine e_callq H rfl rfl (by decide) rfl rfl (Try.call89 _) (recordsP_any comp first pa len pc ss w5 (hr.ext E5) hc hf) ?_
  clear H a
  rintro e w6 ⟨vq, qs, rfl, RL, hqs, F6⟩
  refine ⟨_, rfl, fun a H => ?_⟩
  have E6 := E5.tr F6
  replace RL := RL.mono E5.sz
  replace Rr := Rr.ext F6
  replace D7 := D7.ext F6
  replace HM := map_ext HM F6
  obtain ⟨qa, qc, rfl, _⟩ := RL.row.shape
  obtain ⟨hs, hhs⟩ : ∃ n, n = w6.heap.size := ⟨_, rfl⟩
  have hqold : ∀ k, (Value.slice qa qs.length qc).ownBlock = some k → k < hs := fun k hk => by have := (RL.row.blk k hk).2.1; omega
  have hql : qs.length ≤ 40 := by have := congrArg List.length hqs; rw [List.length_map] at this; rw [this]; exact play_len _ _ _
  have hokr : ∀ p ∈ qs, Okr p.1 := fun p hp => play_okr comp first ss hf hss p.1 (by rw [← hqs]; exact List.mem_map_of_mem hp)
  refine e_op H rfl rfl (by decide) (x_builtin H rfl rfl (fun cs => len_sl under84)) ?_
  clear H a; intro a H
  refine e_op H rfl rfl (by decide) (x_move H rfl rfl) ?_
  clear H a; intro a H
  refine e_nil (hR.out _ _ ?_)
  clear hR R
  refine hK10 _ _ ?_
  clear hK10 K10
  refine wp_block ?_
  refine wp_loop_ghost (fun n a w => ∃ i vr psr r va c D, i ≤ qs.length ∧ n = qs.length - i ∧ Has a 160 [(0, .int .u16 (ca : Int)), (5, .pointer (some ⟨gr, 0, none⟩)), (7, .pointer (some ⟨g7, 0, none⟩)), (8, .map (some gm)), (43, .slice qa qs.length qc), (44, .int .i64 ((qs.length : Nat) : Int)), (45, .int .i64 (i : Int))] ∧ Rn w w0.heap.size gr vr psr r ∧ Rl w w0.heap.size (.slice qa qs.length qc) qs ∧ Blk w g7 135 (rfCells r (.slice va r.list.length c)) ∧ It w w0.heap.size (.slice va r.list.length c) (r.list.map toldOf) ∧ w.ownsMap Try.prog 56 hld gm i D ∧ Mp r qs D ∧ Lv r ∧ r.cap = (1 + ((ca % 300 : Nat) : Int)) ∧ r.list.length ≤ i ∧ (∀ k, vr.ownBlock = some k → hs ≤ k) ∧ hs ≤ w.heap.size ∧ Ext w0 w) (qs.length) ?_ ?_
  · skip
    exact ⟨0, .slice none 0 0, [], ⟨(1 + ((ca % 300 : Nat) : Int)), 0, [], false, 0, 0, 0⟩, none, 0, _, by omega, rfl, H.sub ⟨rfl, rfl, rfl, rfl, rfl, rfl, rfl, trivial⟩, Rr, RL, D7, Sr.nil _ _ _ _, HM, (fun x hx => by cases hx), ⟨fun _ => ⟨rfl, rfl, rfl⟩, (fun h => by cases h), rfl, .inl rfl⟩, rfl, Nat.le_refl _, (fun k hk => by cases hk), by omega, E6⟩
  · skip
    clear H Rr RL D7 HM E6 B3
    intro n a w hI
    obtain ⟨i, vr, psr, r, va, c, D, hi, rfl, H, Rr, RL, D7, IT, HM, MP, Lr, hcap, hlen, sep1, hhw, E⟩ := hI
    rcases (show i < qs.length ∨ i = qs.length by omega) with hlt | hie
    · skip
      obtain ⟨⟨y, uy⟩, hp⟩ : ∃ p, qs[i]? = some p := ⟨_, List.getElem?_eq_getElem hlt⟩
      have hpq := List.mem_of_getElem? hp
      obtain ⟨gq, oq, hqa, hcl, hok, hzp, _⟩ := RL.at_ i (y, uy) hp
      subst hqa
      have hldr := ld_elem RL i (y, uy) hp
      simp only at hok hzp hldr
      obtain ⟨ua, uc, rfl, _⟩ := (Sr.of hzp.1).shape
      have hky : Okr y := hokr _ hpq
      have hw3n : y.what ≠ 3 := by rcases hky.what with h | h <;> omega
      have hpl : psr.length = r.list.length := by rw [← Rr.eq, List.length_map]
      have hw16 : ∀ z ∈ r.list ++ [y], z.words.length = 16 := by
        intro z hz
        rcases List.mem_append.1 hz with h | h
        · rw [← Rr.eq] at h
          obtain ⟨q, hq, rfl⟩ := List.mem_map.1 h
          exact Rr.lst.w16 q hq
        · simp only [List.mem_singleton] at h; subst h; exact hok.words
      have hcap1 : 1 ≤ r.cap := by omega
      have hlen' := put_len (r := r) hky.good hw3n
      have hcap' : (r.put y).1.cap = (1 + ((ca % 300 : Nat) : Int)) := by rw [put_cap]; exact hcap
      have Lr' := lv_put Lr hky
      refine wp_seq_k (fun K11 hK11 => ?_)
      refine e_region (fun R hR => ?_)
      refine e_op H rfl rfl (by decide) (x_binI H rfl rfl rfl (b_lss (b := true) (dec_t (by omega)))) ?_
      clear H a; intro a H
      refine e_nil (hR.out _ _ ?_)
      clear hR R
      refine hK11 _ _ ?_
      clear hK11 K11
      refine wp_seq_k (fun K12 hK12 => ?_)
      refine c_true H rfl ?_
      refine wp_skip ?_
      refine hK12 _ _ ?_
      clear hK12 K12
      refine wp_seq_k (fun K13 hK13 => ?_)
      refine wp_block ?_
      refine wp_seq_k (fun K14 hK14 => ?_)
      refine e_region (fun R hR => ?_)
      refine e_op H rfl rfl (by decide) (x_indexAddr H rfl rfl rfl (i_slN (m := i) under84 size95 rfl hlt)) ?_
      clear H a; intro a H
      refine e_op H rfl rfl (by decide) (x_load H rfl rfl hldr) ?_
      clear H a; intro a H
      refine e_op H rfl rfl (by decide) (x_alloc H rfl (al_new (z95 _))) ?_
      clear H a; intro a H
      refine e_st H rfl rfl (x_store H rfl rfl rfl (st_row (Blk.new w 95 zero95) (by rw [info95]; simp [Rcd.cells_len _ _ hok.words]) (by simp [Rcd.cells_len _ _ hok.words, zero95]) (by rw [Array.all_eq_true']; intro z hz; exact cells_one y ua y.ev.args.length uc z (by simpa using hz)))) ?_
      obtain ⟨T, Ex⟩ := copy_rec w y (.slice ua y.ev.args.length uc) hok.words
      obtain ⟨gx, hgx⟩ : ∃ g, g = w.heap.size := ⟨_, rfl⟩
      rw [← hgx] at H T Ex
      rw [← hgx]
      generalize (w.alloc (.cells zero95.toArray 95)).setRow gx (y.cells (.slice ua y.ev.args.length uc)).toArray = wa at *
      have lvr : ∀ k, vr.ownBlock = some k → k < w.heap.size := fun k hk => (Rr.lst.row.blk k hk).2.1
      have hgxw : gx = w.heap.size := hgx
      have lr := Rr.blk.lt
      replace Rr := Rr.ext Ex
      replace RL := RL.ext Ex
      replace D7 := D7.ext Ex
      replace IT := IT.ext Ex
      replace HM := map_ext HM Ex
      replace hzp := hzp.ext Ex
      replace E := E.tr Ex
      replace hhw := Nat.le_trans hhw Ex.sz
      refine e_nil (hR.out _ _ ?_)
      clear hR R
      refine hK14 _ _ ?_
      clear hK14 K14
      refine wp_seq_k (fun K15 hK15 => ?_)
      refine wp_seq_k (fun K16 hK16 => ?_)
      refine e_region (fun R hR => ?_)
      refine e_op H rfl rfl (by decide) (x_load H rfl rfl (ld_rec T hok.words)) ?_
      clear H a; intro a H
      refine e_callq H rfl rfl (by decide) rfl rfl (Try.call90 _) (check_any y (.slice ua y.ev.args.length uc) wa hok hzp.zl) ?_
      clear H a
      rintro e wb ⟨rfl, Fb⟩
      refine ⟨_, rfl, fun a H => ?_⟩
      rw [hky.good] at H
      replace Rr := Rr.ext Fb
      replace RL := RL.ext Fb
      replace D7 := D7.ext Fb
      replace IT := IT.ext Fb
      replace HM := map_ext HM Fb
      replace T := T.ext Fb
      replace E := E.tr Fb
      replace hhw := Nat.le_trans hhw Fb.sz
      replace hzp := hzp.ext Fb
      refine e_op H rfl rfl (by decide) (x_binI H rfl rfl rfl (b_neq (b := false) (rfl))) ?_
      clear H a; intro a H
      refine e_nil (hR.out _ _ ?_)
      clear hR R
      refine hK16 _ _ ?_
      clear hK16 K16
      refine c_false H rfl ?_
      refine wp_skip ?_
      refine hK15 _ _ ?_
      clear hK15 K15
      refine wp_seq_k (fun K17 hK17 => ?_)
      refine e_region (fun R hR => ?_)
      refine e_op H rfl rfl (by decide) (x_move H rfl rfl) ?_
      clear H a; intro a H
      refine e_op H rfl rfl (by decide) (x_load H rfl rfl (ld_rec T hok.words)) ?_
      clear H a; intro a H
      refine e_callq H rfl rfl (by decide) rfl rfl (Try.call68 _) (put_all w0.heap.size gr vr psr r y wb Rr hok ua y.ev.args.length uc (hzp.mono (Nat.zero_le _)) hky.good hw3n (by omega) E.sz) ?_
      clear H a
      rintro e wc ⟨vr2, psr2, rfl, Rr2, FF, hown⟩
      refine ⟨_, rfl, fun a H => ?_⟩
      replace RL := RL.frm FF (Rl.apart Rr RL (fun k hk e => by have := hqold k hk; have := sep1 k e; omega)) Rr.no2
      replace D7 := D7.frm FF (Rr.notin (D7.notT (by decide)) (D7.notT (by decide)))
      replace IT := Sr.frm IT FF (fun k hk => by
        obtain ⟨_, _, cur, hc⟩ := Sr.blk IT k hk
        exact Rr.notin (fun cur2 f e => by rw [hc] at e; simp at e) (fun cur2 f e => by rw [hc] at e; simp at e))
      replace HM := map_heap HM (FF.block gm HM.lt (Rr.notin (fun cur f => map_not HM cur 191 f) (fun cur f => map_not HM cur 95 f)))
      replace T := T.frm FF (by
        intro h
        rcases List.mem_cons.1 h with h | h
        · omega
        · have := lvr gx (by simpa using h); omega)
      replace hzp := hzp.frm FF Rr.no2
      replace E := putExt E Rr FF
      have hsep2 : ∀ k, vr2.ownBlock = some k → hs ≤ k := by
        intro k hk
        rcases hown with h | h | ⟨b, h, hb⟩
        · rw [h] at hk; cases hk
        · rw [h] at hk; exact sep1 k hk
        · rw [h] at hk; cases hk; omega
      replace hhw := Nat.le_trans hhw FF.size
      clear FF Rr hown
      refine e_op H rfl rfl (by decide) (x_move H rfl rfl) ?_
      clear H a; intro a H
      refine e_op H rfl rfl (by decide) (x_ext0 H rfl rfl) ?_
      clear H a; intro a H
      refine e_op H rfl rfl (by decide) (x_ext1 H rfl rfl) ?_
      clear H a; intro a H
      refine e_op H rfl rfl (by decide) (x_assign H rfl rfl) ?_
      clear H a; intro a H
      refine e_op H rfl rfl (by decide) (x_assign H rfl rfl) ?_
      clear H a; intro a H
      refine e_nil (hR.out _ _ ?_)
      clear hR R
      refine hK17 _ _ ?_
      clear hK17 K17
      refine wp_seq_k (fun K18 hK18 => ?_)
      obtain ⟨wc0, hwc0⟩ : ∃ wx, wx = wc := ⟨_, rfl⟩
      subst hwc0
      obtain ⟨wc, hwc⟩ : ∃ wx, wx = wc0.drew := ⟨_, rfl⟩
      have Ewc : Ext wc0 wc := by rw [hwc]; exact (Ext.refl _).dr
      replace Rr2 := Rr2.ext Ewc
      replace RL := RL.ext Ewc
      replace D7 := D7.ext Ewc
      replace IT := IT.ext Ewc
      replace HM := map_ext HM Ewc
      replace T := T.ext Ewc
      replace E := E.tr Ewc
      replace hhw := Nat.le_trans hhw Ewc.sz
      replace hzp := hzp.ext Ewc
      obtain ⟨wd0, hwd0⟩ : ∃ wx, wx = wc := ⟨_, rfl⟩
      have D70 : Blk wd0 g7 135 (rfCells r (.slice va r.list.length c)) := by rw [hwd0]; exact D7
      have T0 : Blk wd0 gx 95 (y.cells (.slice ua y.ev.args.length uc)) := by rw [hwd0]; exact T
      have FSq : Ext wd0 wc := by rw [hwd0]; exact Ext.refl _
      have hE0 : w0.heap.size ≤ wd0.heap.size := by rw [hwd0]; exact E.sz
      clear hwd0
      refine Code.wp_mono (Q := fun e a w => e = Exit.normal ∧ ∃ g13 a9 c9, Has a 160 [(0, .int .u16 (ca : Int)), (5, .pointer (some ⟨gr, 0, none⟩)), (7, .pointer (some ⟨g7, 0, none⟩)), (8, .map (some gm)), (10, .pointer (some ⟨gx, 0, none⟩)), (11, .int .i64 (((r.put y).2.1 : Nat) : Int)), (12, .int .i64 (((r.put y).2.2 : Nat) : Int)), (13, .pointer (some ⟨g13, 0, none⟩)), (14, .int .i64 (((r.put y).2.1 : Nat) : Int)), (15, .int .i64 (((r.put y).2.2 : Nat) : Int)), (43, .slice (some ⟨gq, oq, none⟩) qs.length qc), (44, .int .i64 ((qs.length : Nat) : Int)), (45, .int .i64 (i : Int))] ∧ Rn w w0.heap.size gr vr2 psr2 (r.put y).1 ∧ Rl w w0.heap.size (.slice (some ⟨gq, oq, none⟩) qs.length qc) qs ∧ Blk w g7 135 (rfCells r (.slice va r.list.length c)) ∧ Blk w g13 135 (rfCells (r.put y).1 (.slice a9 (r.put y).1.list.length c9)) ∧ It w w0.heap.size (.slice a9 (r.put y).1.list.length c9) ((r.put y).1.list.map toldOf) ∧ w.ownsMap Try.prog 56 hld gm i D ∧ Blk w gx 95 (y.cells (.slice ua y.ev.args.length uc)) ∧ hs ≤ w.heap.size ∧ Ext w0 w) (fun e a w hM => ?_) ?_
      · skip
        clear H Rr2 RL D7 IT HM T hzp E FSq D70 T0 hhw
        obtain ⟨rfl, g13, a9, c9, H, Rr2, RL, D7, D13, IT2, HM, T, hhw, E⟩ := hM
        refine hK18 _ _ ?_
        clear hK18 K18
        refine wp_seq_k (fun K19 hK19 => ?_)
        refine wp_seq_k (fun K20 hK20 => ?_)
        refine e_region (fun R hR => ?_)
        refine e_op H rfl rfl (by decide) (x_move H rfl rfl) ?_
        clear H a; intro a H
        refine e_op H rfl rfl (by decide) (x_move H rfl rfl) ?_
        clear H a; intro a H
        refine e_op H rfl rfl (by decide) (x_binI H rfl rfl rfl (b_neq (b := false) (bne_f rfl))) ?_
        clear H a; intro a H
        refine e_op H rfl rfl (by decide) (x_move H rfl rfl) ?_
        clear H a; intro a H
        refine e_opg H (wanted_true H rfl rfl rfl rfl) rfl (by decide) (x_move H rfl rfl) ?_
        clear H a; intro a H
        refine e_opg H (wanted_true H rfl rfl rfl rfl) rfl (by decide) (x_move H rfl rfl) ?_
        clear H a; intro a H
        refine e_opg H (wanted_true H rfl rfl rfl rfl) rfl (by decide) (x_binI H rfl rfl rfl (b_neq (b := false) (bne_f rfl))) ?_
        clear H a; intro a H
        refine e_op H rfl rfl (by decide) (x_pickF H rfl rfl rfl) ?_
        clear H a; intro a H
        refine e_nil (hR.out _ _ ?_)
        clear hR R
        refine hK20 _ _ ?_
        clear hK20 K20
        refine c_false H rfl ?_
        refine wp_skip ?_
        refine hK19 _ _ ?_
        clear hK19 K19
        refine wp_seq_k (fun K21 hK21 => ?_)
        refine e_region (fun R hR => ?_)
        refine e_op H rfl rfl (by decide) (x_load H rfl rfl (l_part (cs := rfCells (r.put y).1 (.slice a9 (r.put y).1.list.length c9)) isAgg135 size135 (fun j v hv => by rw [D13.cell, Nat.zero_add]; exact hv))) ?_
        clear H a; intro a H
        refine e_st H rfl rfl (x_store H rfl rfl rfl (st_row D7 (by kernel_rfl) (by rfl) (by simp [Value.oneCell', rfCells]))) ?_
        have F7 : Frm [g7] w (w.setRow g7 (rfCells (r.put y).1 (.slice a9 (r.put y).1.list.length c9)).toArray) := (Frm.refl [g7] w).grown (grown_setRow w g7 _) (fun k e => by cases e; exact .inl (by simp))
        replace Rr2 := Rr2.one F7 (D7.notT (by decide)) (D7.notT (by decide)) (D7.notT (by decide))
        replace RL := RL.one_ F7 (D7.notT (by decide)) (D7.notT (by decide))
        replace IT2 := IT2.one F7 (D7.notT (by decide))
        replace HM := map_heap HM (F7.block gm HM.lt (by simp only [List.mem_singleton]; intro e; rw [e] at HM; exact map_not HM _ _ _ D7))
        replace T := T.frm F7 (by simp only [List.mem_singleton]; exact T.ne_ D7 (by decide))
        replace E := E.row_ hlo7 (rfCells (r.put y).1 (.slice a9 (r.put y).1.list.length c9)).toArray
        replace hhw := Nat.le_trans hhw F7.size
        replace D7 := D7.row (rfCells (r.put y).1 (.slice a9 (r.put y).1.list.length c9))
        clear F7 D13
        generalize w.setRow g7 (rfCells (r.put y).1 (.slice a9 (r.put y).1.list.length c9)).toArray = wg at *
        refine e_nil (hR.out _ _ ?_)
        clear hR R
        refine hK21 _ _ ?_
        clear hK21 K21
        refine wp_seq_k (fun K22 hK22 => ?_)
        refine wp_seq_k (fun K23 hK23 => ?_)
        refine e_region (fun R hR => ?_)
        refine e_op H rfl rfl (by decide) (x_move H rfl rfl) ?_
        clear H a; intro a H
        refine e_op H rfl rfl (by decide) (x_binI H rfl rfl rfl (b_eql rfl)) ?_
        clear H a; intro a H
        refine e_nil (hR.out _ _ ?_)
        clear hR R
        refine hK23 _ _ ?_
        clear hK23 K23
        refine Code.wp_mono (Q := fun e a w => e = Exit.normal ∧ ∃ D', Has a 160 [(0, .int .u16 (ca : Int)), (5, .pointer (some ⟨gr, 0, none⟩)), (7, .pointer (some ⟨g7, 0, none⟩)), (8, .map (some gm)), (43, .slice (some ⟨gq, oq, none⟩) qs.length qc), (44, .int .i64 ((qs.length : Nat) : Int)), (45, .int .i64 (i : Int))] ∧ Rn w w0.heap.size gr vr2 psr2 (r.put y).1 ∧ Rl w w0.heap.size (.slice (some ⟨gq, oq, none⟩) qs.length qc) qs ∧ Blk w g7 135 (rfCells (r.put y).1 (.slice a9 (r.put y).1.list.length c9)) ∧ It w w0.heap.size (.slice a9 (r.put y).1.list.length c9) ((r.put y).1.list.map toldOf) ∧ w.ownsMap Try.prog 56 hld gm (i + 1) D' ∧ Mp (r.put y).1 qs D' ∧ hs ≤ w.heap.size ∧ Ext w0 w) (fun e a w hM => ?_) ?_
        · skip
          clear H Rr2 RL D7 IT2 HM T E hhw
          obtain ⟨rfl, D2, H, Rr2, RL, D7, IT2, HM, MP2, hhw, E⟩ := hM
          refine hK22 _ _ ?_
          clear hK22 K22
          refine wp_seq_k (fun K24 hK24 => ?_)
          obtain ⟨r2, hr2⟩ : ∃ r2, r2 = (r.put y).1 := ⟨_, rfl⟩
          rw [← hr2] at Rr2 D7 IT2 MP2 Lr' hcap' hlen'
          obtain ⟨wd, hwd⟩ : ∃ wx, wx = w.drew := ⟨_, rfl⟩
          have Ewd : Ext w wd := by rw [hwd]; exact (Ext.refl _).dr
          replace Rr2 := Rr2.ext Ewd
          replace RL := RL.ext Ewd
          replace D7 := D7.ext Ewd
          replace IT2 := IT2.ext Ewd
          replace HM := map_ext HM Ewd
          replace E := E.tr Ewd
          replace hhw := Nat.le_trans hhw Ewd.sz
          have D70 := D7
          have FSq := Ext.refl wd
          have hw2 : ∀ z ∈ r2.list, z.words.length = 16 := fun z hz => by
            rw [← Rr2.eq] at hz
            obtain ⟨q, hq, rfl⟩ := List.mem_map.1 hz
            exact Rr2.lst.w16 q hq
          have hix2 : ∀ z ∈ r2.list, z.idx < 18446744073709551616 := fun z hz => by
            rw [← Rr2.eq] at hz
            obtain ⟨q, hq, rfl⟩ := List.mem_map.1 hz
            exact (Rr2.lst.one q hq).1.idx
          have hus2 := lv_used Lr' (by omega)
          refine g_start (fun w' => Ext wd w') (by kernel_rfl) (fun R hR => ?_)
          rw [← hwd]
          refine g_take 0 H rfl (wanted_none rfl) rfl (by decide) (by kernel_rfl) (by kernel_rfl) (by kernel_rfl) FSq (fun w' hSw => (x_move H rfl rfl)) ?_
          clear H a; intro a H
          refine g_take 2 H rfl (wanted_none rfl) rfl (by decide) (by kernel_rfl) (by kernel_rfl) (by kernel_rfl) FSq (fun w' hSw => (x_fieldAddr H rfl rfl (fa135_1 _ _))) ?_
          clear H a; intro a H
          refine g_take 3 H rfl (wanted_none rfl) rfl (by decide) (by kernel_rfl) (by kernel_rfl) (by kernel_rfl) FSq (fun w' hSw => (x_load H rfl rfl (l_cell Try.isAgg133 ((D70.ext hSw).at_ (i := 1) rfl)))) ?_
          clear H a; intro a H
          refine g_take 4 H rfl (wanted_none rfl) rfl (by decide) (by kernel_rfl) (by kernel_rfl) (by kernel_rfl) FSq (fun w' hSw => (x_builtin H rfl rfl (fun cs => len_sl under133))) ?_
          clear H a; intro a H
          refine g_call 1 H rfl (by kernel_rfl) (wanted_none rfl) rfl (by decide) rfl rfl (Try.call87 _) (rlen_any Rr2) ?_
          clear H a
          rintro e w9 ⟨rfl, rfl⟩
          refine ⟨_, rfl, FSq, fun a H => ?_⟩
          refine g_take 5 H rfl (wanted_none rfl) rfl (by decide) (by kernel_rfl) (by kernel_rfl) (by kernel_rfl) FSq (fun w' hSw => (x_binI H rfl rfl rfl (b_neq (b := false) (bne_f rfl)))) ?_
          clear H a; intro a H
          refine g_take 6 H rfl (wanted_none rfl) rfl (by decide) (by kernel_rfl) (by kernel_rfl) (by kernel_rfl) FSq (fun w' hSw => (x_move H rfl rfl)) ?_
          clear H a; intro a H
          refine g_take 7 H rfl (wanted_true H rfl rfl rfl rfl) rfl (by decide) (by kernel_rfl) (by kernel_rfl) (by kernel_rfl) FSq (fun w' hSw => (x_move H rfl rfl)) ?_
          clear H a; intro a H
          refine g_take 9 H rfl (wanted_true H rfl rfl rfl rfl) rfl (by decide) (by kernel_rfl) (by kernel_rfl) (by kernel_rfl) FSq (fun w' hSw => (x_load H rfl rfl (l_part (cs := rfCells r2 (.slice a9 r2.list.length c9)) isAgg135 size135 (fun j v hv => by rw [(D70.ext hSw).cell, Nat.zero_add]; exact hv)))) ?_
          clear H a; intro a H
          refine g_call 8 H rfl (by kernel_rfl) (wanted_true H rfl rfl rfl rfl) rfl (by decide) rfl rfl (Try.call93 _) (ringUsed_any gr _ _ _ _ _ _ _ _ Rr2.blk) ?_
          clear H a
          rintro e w9 ⟨rfl, rfl⟩
          refine ⟨_, rfl, FSq, fun a H => ?_⟩
          refine g_call 10 H rfl (by kernel_rfl) (wanted_true H rfl rfl rfl rfl) rfl (by decide) rfl rfl (Try.call94 _) (usedRef_any r2 w0.heap.size a9 r2.list.length c9 (r2.list.map toldOf) _ IT2 (by rw [List.length_map]) (by simpa using told_le r2.list hw2 0) (by omega)) ?_
          clear H a
          rintro e wn ⟨rfl, Fe⟩
          replace Rr2 := Rr2.ext Fe
          replace RL := RL.ext Fe
          replace D7 := D7.ext Fe
          replace IT2 := IT2.ext Fe
          replace HM := map_ext HM Fe
          replace E := E.tr Fe
          replace hhw := Nat.le_trans hhw Fe.sz
          replace FSq := FSq.tr Fe
          refine ⟨_, rfl, FSq, fun a H => ?_⟩
          rw [sizes_told] at H
          refine g_take 11 H rfl (wanted_true H rfl rfl rfl rfl) rfl (by decide) (by kernel_rfl) (by kernel_rfl) (by kernel_rfl) FSq (fun w' hSw => (x_binI H rfl rfl rfl (b_neq (b := false) (bne_f (by rw [Lr'.used]))))) ?_
          clear H a; intro a H
          refine g_take 12 H rfl (wanted_none rfl) rfl (by decide) (by kernel_rfl) (by kernel_rfl) (by kernel_rfl) FSq (fun w' hSw => (x_pickF H rfl rfl rfl)) ?_
          clear H a; intro a H
          refine g_take 13 H rfl (wanted_none rfl) rfl (by decide) (by kernel_rfl) (by kernel_rfl) (by kernel_rfl) FSq (fun w' hSw => (x_move H rfl rfl)) ?_
          clear H a; intro a H
          refine g_take 14 H rfl (wanted_true H rfl rfl rfl rfl) rfl (by decide) (by kernel_rfl) (by kernel_rfl) (by kernel_rfl) FSq (fun w' hSw => (x_move H rfl rfl)) ?_
          clear H a; intro a H
          refine g_take 16 H rfl (wanted_true H rfl rfl rfl rfl) rfl (by decide) (by kernel_rfl) (by kernel_rfl) (by kernel_rfl) FSq (fun w' hSw => (x_load H rfl rfl (l_part (cs := rfCells r2 (.slice a9 r2.list.length c9)) isAgg135 size135 (fun j v hv => by rw [(D70.ext hSw).cell, Nat.zero_add]; exact hv)))) ?_
          clear H a; intro a H
          refine g_call 15 H rfl (by kernel_rfl) (wanted_true H rfl rfl rfl rfl) rfl (by decide) rfl rfl (Try.call88 _) (lost_any w0.heap.size gr vr2 psr2 r2 _ Rr2) ?_
          clear H a
          rintro e wn ⟨rfl, Fe⟩
          replace Rr2 := Rr2.ext Fe
          replace RL := RL.ext Fe
          replace D7 := D7.ext Fe
          replace IT2 := IT2.ext Fe
          replace HM := map_ext HM Fe
          replace E := E.tr Fe
          replace hhw := Nat.le_trans hhw Fe.sz
          replace FSq := FSq.tr Fe
          refine ⟨_, rfl, FSq, fun a H => ?_⟩
          refine g_call 17 H rfl (by kernel_rfl) (wanted_true H rfl rfl rfl rfl) rfl (by decide) rfl rfl (Try.call95 _) (lostRef_any r2 w0.heap.size a9 r2.list.length c9 _ IT2 rfl Rr2.n1 Rr2.n2 hix2 (lv_lost Lr')) ?_
          clear H a
          rintro e wn ⟨rfl, Fe⟩
          replace Rr2 := Rr2.ext Fe
          replace RL := RL.ext Fe
          replace D7 := D7.ext Fe
          replace IT2 := IT2.ext Fe
          replace HM := map_ext HM Fe
          replace E := E.tr Fe
          replace hhw := Nat.le_trans hhw Fe.sz
          replace FSq := FSq.tr Fe
          refine ⟨_, rfl, FSq, fun a H => ?_⟩
          refine g_take 18 H rfl (wanted_true H rfl rfl rfl rfl) rfl (by decide) (by kernel_rfl) (by kernel_rfl) (by kernel_rfl) FSq (fun w' hSw => (x_binI H rfl rfl rfl (b_neq (b := false) (bne_f rfl)))) ?_
          clear H a; intro a H
          refine g_take 19 H rfl (wanted_none rfl) rfl (by decide) (by kernel_rfl) (by kernel_rfl) (by kernel_rfl) FSq (fun w' hSw => (x_pickF H rfl rfl rfl)) ?_
          clear H a; intro a H
          refine g_take 20 H rfl (wanted_none rfl) rfl (by decide) (by kernel_rfl) (by kernel_rfl) (by kernel_rfl) FSq (fun w' hSw => (x_move H rfl rfl)) ?_
          clear H a; intro a H
          refine g_take 21 H rfl (wanted_true H rfl rfl rfl rfl) rfl (by decide) (by kernel_rfl) (by kernel_rfl) (by kernel_rfl) FSq (fun w' hSw => (x_move H rfl rfl)) ?_
          clear H a; intro a H
          refine g_take 23 H rfl (wanted_true H rfl rfl rfl rfl) rfl (by decide) (by kernel_rfl) (by kernel_rfl) (by kernel_rfl) FSq (fun w' hSw => (x_move H rfl rfl)) ?_
          clear H a; intro a H
          refine g_take 24 H rfl (wanted_true H rfl rfl rfl rfl) rfl (by decide) (by kernel_rfl) (by kernel_rfl) (by kernel_rfl) FSq (fun w' hSw => (x_binI H rfl rfl rfl (b_rem (z := ((ca % 300 : Nat) : Int)) (by decide) (by rw [Int.tmod_eq_emod_of_nonneg (by omega)]; omega)))) ?_
          clear H a; intro a H
          refine g_take 25 H rfl (wanted_true H rfl rfl rfl rfl) rfl (by decide) (by kernel_rfl) (by kernel_rfl) (by kernel_rfl) FSq (fun w' hSw => (x_conv H rfl rfl (c_int (z := ((ca % 300 : Nat) : Int)) Try.underlying47 Try.underlying3 (by rw [IntKind.wrap_i64]; omega)))) ?_
          clear H a; intro a H
          refine g_take 26 H rfl (wanted_true H rfl rfl rfl rfl) rfl (by decide) (by kernel_rfl) (by kernel_rfl) (by kernel_rfl) FSq (fun w' hSw => (x_binI H rfl rfl rfl (b_add (z := (1 + ((ca % 300 : Nat) : Int))) (by rw [IntKind.wrap_i64]; omega)))) ?_
          clear H a; intro a H
          refine g_call 22 H rfl (by kernel_rfl) (wanted_true H rfl rfl rfl rfl) rfl (by decide) rfl rfl (Try.call93 _) (ringUsed_any gr _ _ _ _ _ _ _ _ Rr2.blk) ?_
          clear H a
          rintro e w9 ⟨rfl, rfl⟩
          refine ⟨_, rfl, FSq, fun a H => ?_⟩
          refine g_take 27 H rfl (wanted_true H rfl rfl rfl rfl) rfl (by decide) (by kernel_rfl) (by kernel_rfl) (by kernel_rfl) FSq (fun w' hSw => (x_binI H rfl rfl rfl (b_gtr (b := false) (dec_f (by omega))))) ?_
          clear H a; intro a H
          refine g_take 28 H rfl (wanted_none rfl) rfl (by decide) (by kernel_rfl) (by kernel_rfl) (by kernel_rfl) FSq (fun w' hSw => (x_pickF H rfl rfl rfl)) ?_
          clear H a; intro a H
          refine g_done (by kernel_rfl) (hR.out _ _ ?_)
          clear hR R
          refine hK24 _ _ ?_
          clear hK24 K24
          refine c_false H rfl ?_
          refine wp_skip ?_
          refine hK13 _ _ ?_
          clear hK13 K13
          refine e_region (fun R hR => ?_)
          refine e_op H rfl rfl (by decide) (x_binI H rfl rfl rfl (b_add (z := ((i + 1 : Nat) : Int)) (by rw [IntKind.wrap_i64]; omega))) ?_
          clear H a; intro a H
          refine e_op H rfl rfl (by decide) (x_move H rfl rfl) ?_
          clear H a; intro a H
          refine e_nil (hR.out _ _ ?_)
          clear hR R
          exact ⟨qs.length - (i + 1), by omega, i + 1, vr2, psr2, r2, a9, c9, D2, by omega, rfl, H.sub ⟨rfl, rfl, rfl, rfl, rfl, rfl, rfl, trivial⟩, Rr2, RL, D7, IT2, HM, MP2, Lr', hcap', by omega, hsep2, hhw, E⟩
        · skip
          by_cases hcode : r.code y = 0
          · skip
            rw [show ((((r.put y).2.2 : Nat) : Int) == 0) = true by rw [(put_of hcode).2]; rfl] at H
            refine c_true H rfl ?_
            refine e_region (fun R hR => ?_)
            refine e_op H rfl rfl (by decide) (x_move H rfl rfl) ?_
            clear H a; intro a H
            refine e_op H rfl rfl (by decide) (x_fieldAddr H rfl rfl (fa95_1 _ _)) ?_
            clear H a; intro a H
            refine e_op H rfl rfl (by decide) (x_load H rfl rfl (l_cell Try.isAgg56 (T.at_ (i := 1) rfl))) ?_
            clear H a; intro a H
            refine e_op H rfl rfl (by decide) (x_load H rfl rfl (ld_rec T hok.words)) ?_
            clear H a; intro a H
            obtain ⟨wm, hrun, HM2, Gm⟩ := map_put HM y.idx hok.idx (.agg (y.cells (.slice ua y.ev.args.length uc)).toArray) (by omega)
            refine e_st H rfl rfl (x_mapUpdate H rfl rfl rfl rfl hrun) ?_
            have Fm : Frm [gm] wg wm := (Frm.refl [gm] wg).grown Gm (fun k e => by cases e; exact .inl (by simp))
            replace Rr2 := Rr2.one Fm (fun cur f => map_not HM cur 191 f) (fun cur f => map_not HM cur 95 f) (fun cur f => map_not HM cur 2 f)
            replace RL := RL.one_ Fm (fun cur f => map_not HM cur 95 f) (fun cur f => map_not HM cur 2 f)
            replace IT2 := IT2.one Fm (fun cur f => map_not HM cur 141 f)
            replace D7 := D7.frm Fm (by simp only [List.mem_singleton]; intro e; rw [← e] at HM; exact map_not HM _ _ _ D7)
            replace E := E.grown Gm (fun k e => by cases e; exact hlom)
            replace hhw := Nat.le_trans hhw Fm.size
            refine e_nil (hR.out _ _ ?_)
            clear hR R
            exact ⟨rfl, _, H.sub ⟨rfl, rfl, rfl, rfl, rfl, rfl, rfl, trivial⟩, Rr2, RL, D7, IT2, HM2, mp_put MP Lr hky hcode hpq (World.ownsMap.isMap HM), hhw, E⟩
          · skip
            have hc11 : r.code y = 11 := by rcases code_cases (r := r) hky.good hw3n with ⟨h, _⟩ | ⟨h, _⟩; exact absurd h hcode; exact h
            rw [show ((((r.put y).2.2 : Nat) : Int) == 0) = false by rw [put_err_of hc11]; rfl] at H
            refine c_false H rfl ?_
            refine wp_skip ?_
            exact ⟨rfl, D, H.sub ⟨rfl, rfl, rfl, rfl, rfl, rfl, rfl, trivial⟩, Rr2, RL, D7, IT2, HM.mono (by omega), by rw [put_err_of hc11]; exact MP, hhw, E⟩
      · skip
        refine g_start (fun w' => Ext wd0 w') (by kernel_rfl) (fun R hR => ?_)
        rw [← hwc]
        refine g_take 0 H rfl (wanted_none rfl) rfl (by decide) (by kernel_rfl) (by kernel_rfl) (by kernel_rfl) FSq (fun w' hSw => (x_load H rfl rfl (l_part (cs := rfCells r (.slice va r.list.length c)) isAgg135 size135 (fun j v hv => by rw [(D70.ext hSw).cell, Nat.zero_add]; exact hv)))) ?_
        clear H a; intro a H
        refine g_take 1 H rfl (wanted_none rfl) rfl (by decide) (by kernel_rfl) (by kernel_rfl) (by kernel_rfl) FSq (fun w' hSw => (x_load H rfl rfl (ld_rec (T0.ext hSw) hok.words))) ?_
        clear H a; intro a H
        refine g_twoc2 2 8 H (by kernel_rfl) rfl (wanted_none rfl) rfl (by decide) rfl rfl (Try.call92 _) (told_any y (.slice ua y.ev.args.length uc) wc hok hzp.zl) rfl (wanted_none rfl) rfl (by decide) (x_alloc H rfl (al_new (z135 _))) (FSq.al _) ?_ ?_
        · skip
          clear H a
          rintro e wn ⟨rfl, Fe⟩
          replace Rr2 := Rr2.ext Fe
          replace RL := RL.ext Fe
          replace D7 := D7.ext Fe
          replace IT := IT.ext Fe
          replace HM := map_ext HM Fe
          replace T := T.ext Fe
          replace E := E.tr Fe
          replace hhw := Nat.le_trans hhw Fe.sz
          replace hzp := hzp.ext Fe
          try replace D13 := D13.ext Fe
          replace FSq := FSq.tr Fe
          clear Fe
          generalize wn = wc at *
          refine ⟨_, rfl, FSq, fun a H => ?_⟩
          refine g_twoc2 3 8 H (by kernel_rfl) rfl (wanted_none rfl) rfl (by decide) rfl rfl (Try.call91 _) (refPut_all r w0.heap.size va r.list.length c y wc IT rfl hok hky.good hw3n Lr.used hw16 (by omega) hcap1 E.sz) rfl (wanted_none rfl) rfl (by decide) (x_alloc H rfl (al_new (z135 _))) (FSq.al _) ?_ ?_
          · skip
            clear H a
            rintro e wn ⟨a9, c9, rfl, IT2, Fe⟩
            replace Rr2 := Rr2.ext Fe
            replace RL := RL.ext Fe
            replace D7 := D7.ext Fe
            replace IT := IT.ext Fe
            replace HM := map_ext HM Fe
            replace T := T.ext Fe
            replace E := E.tr Fe
            replace hhw := Nat.le_trans hhw Fe.sz
            try replace D13 := D13.ext Fe
            replace FSq := FSq.tr Fe
            clear Fe
            generalize wn = wc at *
            refine ⟨_, rfl, FSq, fun a H => ?_⟩
            refine g_take 4 H rfl (wanted_none rfl) rfl (by decide) (by kernel_rfl) (by kernel_rfl) (by kernel_rfl) FSq (fun w' hSw => (x_move H rfl rfl)) ?_
            clear H a; intro a H
            refine g_take 5 H rfl (wanted_none rfl) rfl (by decide) (by kernel_rfl) (by kernel_rfl) (by kernel_rfl) FSq (fun w' hSw => (x_extract H rfl rfl (v := .agg (rfCells (r.put y).1 (.slice a9 (r.put y).1.list.length c9)).toArray) rfl)) ?_
            clear H a; intro a H
            refine g_take 6 H rfl (wanted_none rfl) rfl (by decide) (by kernel_rfl) (by kernel_rfl) (by kernel_rfl) FSq (fun w' hSw => (x_extract H rfl rfl (v := .int .i64 (((r.put y).2.1 : Nat) : Int)) rfl)) ?_
            clear H a; intro a H
            refine g_take 7 H rfl (wanted_none rfl) rfl (by decide) (by kernel_rfl) (by kernel_rfl) (by kernel_rfl) FSq (fun w' hSw => (x_extract H rfl rfl (v := .int .i64 (((r.put y).2.2 : Nat) : Int)) rfl)) ?_
            clear H a; intro a H
            refine g_op 8 H rfl (by kernel_rfl) (wanted_none rfl) rfl (by decide) (x_alloc H rfl (al_new (z135 _))) (FSq.al _) ?_
            clear H a; intro a H
            have D13 := Blk.new wc 135 zero135
            have Ea := (Ext.refl wc).al (.cells zero135.toArray 135)
            have hg13l : wd0.heap.size ≤ wc.heap.size := FSq.sz
            replace FSq := FSq.al (.cells zero135.toArray 135)
            replace Rr2 := Rr2.ext Ea
            replace RL := RL.ext Ea
            replace D7 := D7.ext Ea
            replace IT := IT.ext Ea
            replace HM := map_ext HM Ea
            replace T := T.ext Ea
            replace E := E.tr Ea
            replace hhw := Nat.le_trans hhw Ea.sz
            try (replace hzp := hzp.ext Ea)
            try replace IT2 := IT2.ext Ea
            obtain ⟨g13, hg13⟩ : ∃ g, g = wc.heap.size := ⟨_, rfl⟩
            rw [← hg13] at H D13 hg13l
            clear hg13 Ea
            generalize wc.alloc (.cells zero135.toArray 135) = wc at *
            refine g_st 9 H rfl (by kernel_rfl) (wanted_none rfl) rfl (x_store H rfl rfl rfl (st_row D13 (by kernel_rfl) (by rfl) (by simp [Value.oneCell', rfCells]))) (FSq.row_ hg13l _) ?_
            have hE13 : w0.heap.size ≤ wd0.heap.size := hE0
            have F13 : Frm [g13] wc (wc.setRow g13 (rfCells (r.put y).1 (.slice a9 (r.put y).1.list.length c9)).toArray) := (Frm.refl [g13] wc).grown (grown_setRow wc g13 _) (fun k e => by cases e; exact .inl (by simp))
            have hne713 : g7 ≠ g13 := by have := D70.lt; omega
            have hnex13 : gx ≠ g13 := by have := T0.lt; omega
            replace Rr2 := Rr2.one F13 (D13.notT (by decide)) (D13.notT (by decide)) (D13.notT (by decide))
            replace RL := RL.one_ F13 (D13.notT (by decide)) (D13.notT (by decide))
            replace IT2 := IT2.one F13 (D13.notT (by decide))
            replace HM := map_heap HM (F13.block gm HM.lt (by simp only [List.mem_singleton]; intro e; rw [e] at HM; exact map_not HM _ _ _ D13))
            replace D7 := D7.frm F13 (by simpa using hne713)
            replace T := T.frm F13 (by simpa using hnex13)
            replace E := E.row_ (by omega : w0.heap.size ≤ g13) (rfCells (r.put y).1 (.slice a9 (r.put y).1.list.length c9)).toArray
            replace hhw := Nat.le_trans hhw F13.size
            replace D13 := D13.row (rfCells (r.put y).1 (.slice a9 (r.put y).1.list.length c9))
            replace FSq := FSq.row_ hg13l (rfCells (r.put y).1 (.slice a9 (r.put y).1.list.length c9)).toArray
            clear IT F13
            refine g_take 10 H rfl (wanted_none rfl) rfl (by decide) (by kernel_rfl) (by kernel_rfl) (by kernel_rfl) FSq (fun w' hSw => (x_assign H rfl rfl)) ?_
            clear H a; intro a H
            refine g_take 11 H rfl (wanted_none rfl) rfl (by decide) (by kernel_rfl) (by kernel_rfl) (by kernel_rfl) FSq (fun w' hSw => (x_assign H rfl rfl)) ?_
            clear H a; intro a H
            refine g_done (by kernel_rfl) (hR.out _ _ ?_)
            clear hR R
            exact ⟨rfl, g13, a9, c9, H.sub ⟨rfl, rfl, rfl, rfl, rfl, rfl, rfl, rfl, rfl, rfl, rfl, rfl, rfl, trivial⟩, Rr2, RL, D7, D13, IT2, HM, T, hhw, E⟩
          · skip
            clear H a; intro a H
            have D13 := Blk.new wc 135 zero135
            have Ea := (Ext.refl wc).al (.cells zero135.toArray 135)
            have hg13l : wd0.heap.size ≤ wc.heap.size := FSq.sz
            replace FSq := FSq.al (.cells zero135.toArray 135)
            replace Rr2 := Rr2.ext Ea
            replace RL := RL.ext Ea
            replace D7 := D7.ext Ea
            replace IT := IT.ext Ea
            replace HM := map_ext HM Ea
            replace T := T.ext Ea
            replace E := E.tr Ea
            replace hhw := Nat.le_trans hhw Ea.sz
            try (replace hzp := hzp.ext Ea)
            try replace IT2 := IT2.ext Ea
            obtain ⟨g13, hg13⟩ : ∃ g, g = wc.heap.size := ⟨_, rfl⟩
            rw [← hg13] at H D13 hg13l
            clear hg13 Ea
            generalize wc.alloc (.cells zero135.toArray 135) = wc at *
            refine g_call 3 H rfl (by kernel_rfl) (wanted_none rfl) rfl (by decide) rfl rfl (Try.call91 _) (refPut_all r w0.heap.size va r.list.length c y wc IT rfl hok hky.good hw3n Lr.used hw16 (by omega) hcap1 E.sz) ?_
            clear H a
            rintro e wn ⟨a9, c9, rfl, IT2, Fe⟩
            replace Rr2 := Rr2.ext Fe
            replace RL := RL.ext Fe
            replace D7 := D7.ext Fe
            replace IT := IT.ext Fe
            replace HM := map_ext HM Fe
            replace T := T.ext Fe
            replace E := E.tr Fe
            replace hhw := Nat.le_trans hhw Fe.sz
            try replace D13 := D13.ext Fe
            replace FSq := FSq.tr Fe
            clear Fe
            generalize wn = wc at *
            refine ⟨_, rfl, FSq, fun a H => ?_⟩
            refine g_take 4 H rfl (wanted_none rfl) rfl (by decide) (by kernel_rfl) (by kernel_rfl) (by kernel_rfl) FSq (fun w' hSw => (x_move H rfl rfl)) ?_
            clear H a; intro a H
            refine g_take 5 H rfl (wanted_none rfl) rfl (by decide) (by kernel_rfl) (by kernel_rfl) (by kernel_rfl) FSq (fun w' hSw => (x_extract H rfl rfl (v := .agg (rfCells (r.put y).1 (.slice a9 (r.put y).1.list.length c9)).toArray) rfl)) ?_
            clear H a; intro a H
            refine g_take 6 H rfl (wanted_none rfl) rfl (by decide) (by kernel_rfl) (by kernel_rfl) (by kernel_rfl) FSq (fun w' hSw => (x_extract H rfl rfl (v := .int .i64 (((r.put y).2.1 : Nat) : Int)) rfl)) ?_
            clear H a; intro a H
            refine g_take 7 H rfl (wanted_none rfl) rfl (by decide) (by kernel_rfl) (by kernel_rfl) (by kernel_rfl) FSq (fun w' hSw => (x_extract H rfl rfl (v := .int .i64 (((r.put y).2.2 : Nat) : Int)) rfl)) ?_
            clear H a; intro a H
            refine g_st 9 H rfl (by kernel_rfl) (wanted_none rfl) rfl (x_store H rfl rfl rfl (st_row D13 (by kernel_rfl) (by rfl) (by simp [Value.oneCell', rfCells]))) (FSq.row_ hg13l _) ?_
            have hE13 : w0.heap.size ≤ wd0.heap.size := hE0
            have F13 : Frm [g13] wc (wc.setRow g13 (rfCells (r.put y).1 (.slice a9 (r.put y).1.list.length c9)).toArray) := (Frm.refl [g13] wc).grown (grown_setRow wc g13 _) (fun k e => by cases e; exact .inl (by simp))
            have hne713 : g7 ≠ g13 := by have := D70.lt; omega
            have hnex13 : gx ≠ g13 := by have := T0.lt; omega
            replace Rr2 := Rr2.one F13 (D13.notT (by decide)) (D13.notT (by decide)) (D13.notT (by decide))
            replace RL := RL.one_ F13 (D13.notT (by decide)) (D13.notT (by decide))
            replace IT2 := IT2.one F13 (D13.notT (by decide))
            replace HM := map_heap HM (F13.block gm HM.lt (by simp only [List.mem_singleton]; intro e; rw [e] at HM; exact map_not HM _ _ _ D13))
            replace D7 := D7.frm F13 (by simpa using hne713)
            replace T := T.frm F13 (by simpa using hnex13)
            replace E := E.row_ (by omega : w0.heap.size ≤ g13) (rfCells (r.put y).1 (.slice a9 (r.put y).1.list.length c9)).toArray
            replace hhw := Nat.le_trans hhw F13.size
            replace D13 := D13.row (rfCells (r.put y).1 (.slice a9 (r.put y).1.list.length c9))
            replace FSq := FSq.row_ hg13l (rfCells (r.put y).1 (.slice a9 (r.put y).1.list.length c9)).toArray
            clear IT F13
            refine g_take 10 H rfl (wanted_none rfl) rfl (by decide) (by kernel_rfl) (by kernel_rfl) (by kernel_rfl) FSq (fun w' hSw => (x_assign H rfl rfl)) ?_
            clear H a; intro a H
            refine g_take 11 H rfl (wanted_none rfl) rfl (by decide) (by kernel_rfl) (by kernel_rfl) (by kernel_rfl) FSq (fun w' hSw => (x_assign H rfl rfl)) ?_
            clear H a; intro a H
            refine g_done (by kernel_rfl) (hR.out _ _ ?_)
            clear hR R
            exact ⟨rfl, g13, a9, c9, H.sub ⟨rfl, rfl, rfl, rfl, rfl, rfl, rfl, rfl, rfl, rfl, rfl, rfl, rfl, trivial⟩, Rr2, RL, D7, D13, IT2, HM, T, hhw, E⟩
        · skip
          clear H a; intro a H
          have D13 := Blk.new wc 135 zero135
          have Ea := (Ext.refl wc).al (.cells zero135.toArray 135)
          have hg13l : wd0.heap.size ≤ wc.heap.size := FSq.sz
          replace FSq := FSq.al (.cells zero135.toArray 135)
          replace Rr2 := Rr2.ext Ea
          replace RL := RL.ext Ea
          replace D7 := D7.ext Ea
          replace IT := IT.ext Ea
          replace HM := map_ext HM Ea
          replace T := T.ext Ea
          replace E := E.tr Ea
          replace hhw := Nat.le_trans hhw Ea.sz
          try (replace hzp := hzp.ext Ea)
          try replace IT2 := IT2.ext Ea
          obtain ⟨g13, hg13⟩ : ∃ g, g = wc.heap.size := ⟨_, rfl⟩
          rw [← hg13] at H D13 hg13l
          clear hg13 Ea
          generalize wc.alloc (.cells zero135.toArray 135) = wc at *
          refine g_call 2 H rfl (by kernel_rfl) (wanted_none rfl) rfl (by decide) rfl rfl (Try.call92 _) (told_any y (.slice ua y.ev.args.length uc) wc hok hzp.zl) ?_
          clear H a
          rintro e wn ⟨rfl, Fe⟩
          replace Rr2 := Rr2.ext Fe
          replace RL := RL.ext Fe
          replace D7 := D7.ext Fe
          replace IT := IT.ext Fe
          replace HM := map_ext HM Fe
          replace T := T.ext Fe
          replace E := E.tr Fe
          replace hhw := Nat.le_trans hhw Fe.sz
          replace hzp := hzp.ext Fe
          try replace D13 := D13.ext Fe
          replace FSq := FSq.tr Fe
          clear Fe
          generalize wn = wc at *
          refine ⟨_, rfl, FSq, fun a H => ?_⟩
          refine g_call 3 H rfl (by kernel_rfl) (wanted_none rfl) rfl (by decide) rfl rfl (Try.call91 _) (refPut_all r w0.heap.size va r.list.length c y wc IT rfl hok hky.good hw3n Lr.used hw16 (by omega) hcap1 E.sz) ?_
          clear H a
          rintro e wn ⟨a9, c9, rfl, IT2, Fe⟩
          replace Rr2 := Rr2.ext Fe
          replace RL := RL.ext Fe
          replace D7 := D7.ext Fe
          replace IT := IT.ext Fe
          replace HM := map_ext HM Fe
          replace T := T.ext Fe
          replace E := E.tr Fe
          replace hhw := Nat.le_trans hhw Fe.sz
          try replace D13 := D13.ext Fe
          replace FSq := FSq.tr Fe
          clear Fe
          generalize wn = wc at *
          refine ⟨_, rfl, FSq, fun a H => ?_⟩
          refine g_take 4 H rfl (wanted_none rfl) rfl (by decide) (by kernel_rfl) (by kernel_rfl) (by kernel_rfl) FSq (fun w' hSw => (x_move H rfl rfl)) ?_
          clear H a; intro a H
          refine g_take 5 H rfl (wanted_none rfl) rfl (by decide) (by kernel_rfl) (by kernel_rfl) (by kernel_rfl) FSq (fun w' hSw => (x_extract H rfl rfl (v := .agg (rfCells (r.put y).1 (.slice a9 (r.put y).1.list.length c9)).toArray) rfl)) ?_
          clear H a; intro a H
          refine g_take 6 H rfl (wanted_none rfl) rfl (by decide) (by kernel_rfl) (by kernel_rfl) (by kernel_rfl) FSq (fun w' hSw => (x_extract H rfl rfl (v := .int .i64 (((r.put y).2.1 : Nat) : Int)) rfl)) ?_
          clear H a; intro a H
          refine g_take 7 H rfl (wanted_none rfl) rfl (by decide) (by kernel_rfl) (by kernel_rfl) (by kernel_rfl) FSq (fun w' hSw => (x_extract H rfl rfl (v := .int .i64 (((r.put y).2.2 : Nat) : Int)) rfl)) ?_
          clear H a; intro a H
          refine g_st 9 H rfl (by kernel_rfl) (wanted_none rfl) rfl (x_store H rfl rfl rfl (st_row D13 (by kernel_rfl) (by rfl) (by simp [Value.oneCell', rfCells]))) (FSq.row_ hg13l _) ?_
          have hE13 : w0.heap.size ≤ wd0.heap.size := hE0
          have F13 : Frm [g13] wc (wc.setRow g13 (rfCells (r.put y).1 (.slice a9 (r.put y).1.list.length c9)).toArray) := (Frm.refl [g13] wc).grown (grown_setRow wc g13 _) (fun k e => by cases e; exact .inl (by simp))
          have hne713 : g7 ≠ g13 := by have := D70.lt; omega
          have hnex13 : gx ≠ g13 := by have := T0.lt; omega
          replace Rr2 := Rr2.one F13 (D13.notT (by decide)) (D13.notT (by decide)) (D13.notT (by decide))
          replace RL := RL.one_ F13 (D13.notT (by decide)) (D13.notT (by decide))
          replace IT2 := IT2.one F13 (D13.notT (by decide))
          replace HM := map_heap HM (F13.block gm HM.lt (by simp only [List.mem_singleton]; intro e; rw [e] at HM; exact map_not HM _ _ _ D13))
          replace D7 := D7.frm F13 (by simpa using hne713)
          replace T := T.frm F13 (by simpa using hnex13)
          replace E := E.row_ (by omega : w0.heap.size ≤ g13) (rfCells (r.put y).1 (.slice a9 (r.put y).1.list.length c9)).toArray
          replace hhw := Nat.le_trans hhw F13.size
          replace D13 := D13.row (rfCells (r.put y).1 (.slice a9 (r.put y).1.list.length c9))
          replace FSq := FSq.row_ hg13l (rfCells (r.put y).1 (.slice a9 (r.put y).1.list.length c9)).toArray
          clear IT F13
          refine g_take 10 H rfl (wanted_none rfl) rfl (by decide) (by kernel_rfl) (by kernel_rfl) (by kernel_rfl) FSq (fun w' hSw => (x_assign H rfl rfl)) ?_
          clear H a; intro a H
          refine g_take 11 H rfl (wanted_none rfl) rfl (by decide) (by kernel_rfl) (by kernel_rfl) (by kernel_rfl) FSq (fun w' hSw => (x_assign H rfl rfl)) ?_
          clear H a; intro a H
          refine g_done (by kernel_rfl) (hR.out _ _ ?_)
          clear hR R
          exact ⟨rfl, g13, a9, c9, H.sub ⟨rfl, rfl, rfl, rfl, rfl, rfl, rfl, rfl, rfl, rfl, rfl, rfl, rfl, trivial⟩, Rr2, RL, D7, D13, IT2, HM, T, hhw, E⟩
    · skip
      skip
      refine wp_seq_k (fun K25 hK25 => ?_)
      refine e_region (fun R hR => ?_)
      refine e_op H rfl rfl (by decide) (x_binI H rfl rfl rfl (b_lss (b := false) (dec_f (by omega)))) ?_
      clear H a; intro a H
      refine e_nil (hR.out _ _ ?_)
      clear hR R
      refine hK25 _ _ ?_
      clear hK25 K25
      refine wp_seq_k (fun K26 hK26 => ?_)
      refine c_false H rfl ?_
      refine wp_exit ?_
      refine t_exit ?_
      refine t_exit ?_
      refine b_hit ?_
      clear hK26 K26
      refine hK9 _ _ ?_
      clear hK9 K9
      refine wp_seq_k (fun K27 hK27 => ?_)
      refine e_region (fun R hR => ?_)
      refine e_op H rfl rfl (by decide) (x_move H rfl rfl) ?_
      clear H a; intro a H
      refine e_callq H rfl rfl (by decide) rfl rfl (Try.call69 _) (records_any w0.heap.size gr vr psr r w Rr (by have := congrArg List.length Rr.eq; rw [List.length_map] at this; omega)) ?_
      clear H a
      rintro e wb ⟨vk, ks, rfl, RK, hks, Fb⟩
      refine ⟨_, rfl, fun a H => ?_⟩
      replace RK := RK.mono E.sz
      replace RL := RL.ext Fb
      replace D7 := D7.ext Fb
      replace IT := IT.ext Fb
      replace HM := map_ext HM Fb
      replace E := E.tr Fb
      obtain ⟨ka, kc, rfl, _⟩ := RK.row.shape
      have hix : ∀ z ∈ r.list, z.idx < 18446744073709551616 := fun z hz => by
        rw [← Rr.eq] at hz
        obtain ⟨q, hq, rfl⟩ := List.mem_map.1 hz
        exact (Rr.lst.one q hq).1.idx
      have hn1 := Rr.n1
      have hn2 := Rr.n2
      have hmo := mark_ok Rr
      clear Rr
      refine e_op H rfl rfl (by decide) (x_assign H rfl rfl) ?_
      clear H a; intro a H
      refine e_nil (hR.out _ _ ?_)
      clear hR R
      refine hK27 _ _ ?_
      clear hK27 K27
      refine wp_seq_k (fun K28 hK28 => ?_)
      refine wp_seq_k (fun K29 hK29 => ?_)
      refine e_region (fun R hR => ?_)
      refine e_op H rfl rfl (by decide) (x_load H rfl rfl (l_part (cs := rfCells r (.slice va r.list.length c)) isAgg135 size135 (fun j v hv => by rw [D7.cell, Nat.zero_add]; exact hv))) ?_
      clear H a; intro a H
      refine e_callq H rfl rfl (by decide) rfl rfl (Try.call95 _) (lostRef_any r w0.heap.size va r.list.length c wb IT rfl hn1 hn2 hix (lv_lost Lr)) ?_
      clear H a
      rintro e wc ⟨rfl, Fc⟩
      refine ⟨_, rfl, fun a H => ?_⟩
      replace RK := RK.ext Fc
      replace RL := RL.ext Fc
      replace D7 := D7.ext Fc
      replace IT := IT.ext Fc
      replace HM := map_ext HM Fc
      replace E := E.tr Fc
      refine e_op H rfl rfl (by decide) (x_assign H rfl rfl) ?_
      clear H a; intro a H
      refine e_nil (hR.out _ _ ?_)
      clear hR R
      refine hK29 _ _ ?_
      clear hK29 K29
      refine wp_seq_k (fun K30 hK30 => ?_)
      refine e_region (fun R hR => ?_)
      refine e_op H rfl rfl (by decide) (x_move H rfl rfl) ?_
      clear H a; intro a H
      refine e_op H rfl rfl (by decide) (x_binI H rfl rfl rfl (b_gtr (b := (decide (0 < r.lost))) (decide_eq_decide.2 (by omega)))) ?_
      clear H a; intro a H
      refine e_nil (hR.out _ _ ?_)
      clear hR R
      refine hK30 _ _ ?_
      clear hK30 K30
      refine Code.wp_mono (Q := fun e a w => e = Exit.normal ∧ ∃ ta tc ts, Has a 160 [(7, .pointer (some ⟨g7, 0, none⟩)), (8, .map (some gm)), (16, .slice ta ts.length tc)] ∧ Rl w w0.heap.size (.slice ta ts.length tc) ts ∧ ts.map (·.1) = r.list ∧ Rl w w0.heap.size (.slice qa qs.length qc) qs ∧ Blk w g7 135 (rfCells r (.slice va r.list.length c)) ∧ It w w0.heap.size (.slice va r.list.length c) (r.list.map toldOf) ∧ w.ownsMap Try.prog 56 hld gm i D ∧ Ext w0 w) (fun e a w hM => ?_) ?_
      · skip
        clear H RK RL D7 IT HM E
        obtain ⟨rfl, ta, tc, ts, H, RK, hts, RL, D7, IT, HM, E⟩ := hM
        refine hK28 _ _ ?_
        clear hK28 K28
        refine wp_seq_k (fun K31 hK31 => ?_)
        refine wp_seq_k (fun K32 hK32 => ?_)
        refine e_region (fun R hR => ?_)
        have htl : ts.length = r.list.length := by rw [← hts, List.length_map]
        refine e_op H rfl rfl (by decide) (x_move H rfl rfl) ?_
        clear H a; intro a H
        refine e_op H rfl rfl (by decide) (x_builtin H rfl rfl (fun cs => len_sl under84)) ?_
        clear H a; intro a H
        refine e_op H rfl rfl (by decide) (x_fieldAddr H rfl rfl (fa135_1 _ _)) ?_
        clear H a; intro a H
        refine e_op H rfl rfl (by decide) (x_load H rfl rfl (l_cell Try.isAgg133 (D7.at_ (i := 1) rfl))) ?_
        clear H a; intro a H
        refine e_op H rfl rfl (by decide) (x_builtin H rfl rfl (fun cs => len_sl under133)) ?_
        clear H a; intro a H
        refine e_op H rfl rfl (by decide) (x_binI H rfl rfl rfl (b_neq (b := false) (bne_f (by rw [htl])))) ?_
        clear H a; intro a H
        refine e_nil (hR.out _ _ ?_)
        clear hR R
        refine hK32 _ _ ?_
        clear hK32 K32
        refine c_false H rfl ?_
        refine wp_skip ?_
        refine hK31 _ _ ?_
        clear hK31 K31
        refine wp_seq_k (fun K33 hK33 => ?_)
        refine wp_seq_k (fun K34 hK34 => ?_)
        refine e_region (fun R hR => ?_)
        refine e_op H rfl rfl (by decide) (x_fieldAddr H rfl rfl (fa135_1 _ _)) ?_
        clear H a; intro a H
        refine e_op H rfl rfl (by decide) (x_load H rfl rfl (l_cell Try.isAgg133 (D7.at_ (i := 1) rfl))) ?_
        clear H a; intro a H
        refine e_op H rfl rfl (by decide) (x_builtin H rfl rfl (fun cs => len_sl under133)) ?_
        clear H a; intro a H
        refine e_op H rfl rfl (by decide) (x_move H rfl rfl) ?_
        clear H a; intro a H
        refine e_nil (hR.out _ _ ?_)
        clear hR R
        refine hK34 _ _ ?_
        clear hK34 K34
        refine wp_block ?_
        refine wp_loop_ghost (fun n a w => ∃ j, j ≤ r.list.length ∧ n = r.list.length - j ∧ Has a 160 [(8, .map (some gm)), (16, .slice ta ts.length tc), (142, (.slice va r.list.length c)), (143, .int .i64 ((r.list.length : Nat) : Int)), (144, .int .i64 (j : Int))] ∧ Rl w w0.heap.size (.slice ta ts.length tc) ts ∧ Rl w w0.heap.size (.slice qa qs.length qc) qs ∧ It w w0.heap.size (.slice va r.list.length c) (r.list.map toldOf) ∧ w.ownsMap Try.prog 56 hld gm i D ∧ Ext w0 w) (r.list.length) ?_ ?_
        · skip
          exact ⟨0, by omega, rfl, H.sub ⟨rfl, rfl, rfl, rfl, rfl, trivial⟩, RK, RL, IT, HM, E⟩
        · skip
          clear H RK RL D7 IT HM E
          intro n a w hI
          obtain ⟨j, hj, rfl, H, RK, RL, IT, HM, E⟩ := hI
          rcases (show j < r.list.length ∨ j = r.list.length by omega) with hlt | hje
          · skip
            obtain ⟨⟨y, uy⟩, hp⟩ : ∃ p, ts[j]? = some p := ⟨_, List.getElem?_eq_getElem (by omega)⟩
            obtain ⟨gk, ok, hka, _, hok, hzp, _⟩ := RK.at_ j (y, uy) hp
            subst hka
            simp only at hok hzp
            have hyj : r.list[j]? = some y := by rw [← hts, List.getElem?_map, hp]; rfl
            obtain ⟨gi, oi, hva, hci⟩ := IT.at_ j (toldOf y) (told_at _ _ _ hyj)
            subst hva
            obtain ⟨u2, hq2, hat⟩ := MP y (List.mem_of_getElem? hyj)
            have hz2 := (RL.one (y, u2) hq2).2
            simp only at hz2
            refine wp_seq_k (fun K35 hK35 => ?_)
            refine e_region (fun R hR => ?_)
            refine e_op H rfl rfl (by decide) (x_binI H rfl rfl rfl (b_lss (b := true) (dec_t (by omega)))) ?_
            clear H a; intro a H
            refine e_nil (hR.out _ _ ?_)
            clear hR R
            refine hK35 _ _ ?_
            clear hK35 K35
            refine wp_seq_k (fun K36 hK36 => ?_)
            refine c_true H rfl ?_
            refine wp_skip ?_
            refine hK36 _ _ ?_
            clear hK36 K36
            refine wp_seq_k (fun K37 hK37 => ?_)
            refine wp_block ?_
            refine wp_seq_k (fun K38 hK38 => ?_)
            refine e_region (fun R hR => ?_)
            refine e_op H rfl rfl (by decide) (x_move H rfl rfl) ?_
            clear H a; intro a H
            refine e_op H rfl rfl (by decide) (x_indexAddr H rfl rfl rfl (i_slN (m := j) under133 size141 rfl hlt)) ?_
            clear H a; intro a H
            refine e_op H rfl rfl (by decide) (x_load H rfl rfl (l_part (cs := (toldOf y).cells) isAgg141 size141 hci)) ?_
            clear H a; intro a H
            refine e_op H rfl rfl (by decide) (x_alloc H rfl (al_new (z141 _))) ?_
            clear H a; intro a H
            refine e_op H rfl rfl (by decide) (x_assign H rfl rfl) ?_
            clear H a; intro a H
            refine e_st H rfl rfl (x_store H rfl rfl rfl (st_row (Blk.new w 141 zero141) (by kernel_rfl) (by rfl) (by simp [Value.oneCell', Itm.cells]))) ?_
            obtain ⟨T, Ex⟩ := copy_141 w (toldOf y).cells
            obtain ⟨gx, hgx⟩ : ∃ g, g = w.heap.size := ⟨_, rfl⟩
            rw [← hgx] at H T Ex
            rw [← hgx]
            generalize (w.alloc (.cells zero141.toArray 141)).setRow gx (toldOf y).cells.toArray = wa at *
            replace RK := RK.ext Ex
            replace RL := RL.ext Ex
            replace IT := IT.ext Ex
            replace HM := map_ext HM Ex
            replace E := E.tr Ex
            replace hzp := hzp.ext Ex
            replace hz2 := hz2.ext Ex
            refine e_nil (hR.out _ _ ?_)
            clear hR R
            refine hK38 _ _ ?_
            clear hK38 K38
            refine wp_seq_k (fun K39 hK39 => ?_)
            obtain ⟨wd, hwd⟩ : ∃ wx, wx = wa.drew := ⟨_, rfl⟩
            have Ewd : Ext wa wd := by rw [hwd]; exact (Ext.refl _).dr
            replace RK := RK.ext Ewd
            replace RL := RL.ext Ewd
            replace IT := IT.ext Ewd
            replace HM := map_ext HM Ewd
            replace E := E.tr Ewd
            replace hzp := hzp.ext Ewd
            replace hz2 := hz2.ext Ewd
            replace T := T.ext Ewd
            have RK0 := RK
            have T0 := T
            have HM0 := HM
            have FSq := Ext.refl wd
            refine g_start (fun w' => Ext wd w') (by kernel_rfl) (fun R hR => ?_)
            rw [← hwd]
            refine g_take 0 H rfl (wanted_none rfl) rfl (by decide) (by kernel_rfl) (by kernel_rfl) (by kernel_rfl) FSq (fun w' hSw => (x_move H rfl rfl)) ?_
            clear H a; intro a H
            refine g_take 1 H rfl (wanted_none rfl) rfl (by decide) (by kernel_rfl) (by kernel_rfl) (by kernel_rfl) FSq (fun w' hSw => (x_move H rfl rfl)) ?_
            clear H a; intro a H
            refine g_take 2 H rfl (wanted_none rfl) rfl (by decide) (by kernel_rfl) (by kernel_rfl) (by kernel_rfl) FSq (fun w' hSw => (x_indexAddr H rfl rfl rfl (i_slN (m := j) under84 size95 rfl (by omega)))) ?_
            clear H a; intro a H
            refine g_take 3 H rfl (wanted_none rfl) rfl (by decide) (by kernel_rfl) (by kernel_rfl) (by kernel_rfl) FSq (fun w' hSw => (x_load H rfl rfl (ld_elem (RK0.ext hSw) j (y, uy) hp))) ?_
            clear H a; intro a H
            refine g_take 4 H rfl (wanted_none rfl) rfl (by decide) (by kernel_rfl) (by kernel_rfl) (by kernel_rfl) FSq (fun w' hSw => (x_move H rfl rfl)) ?_
            clear H a; intro a H
            refine g_take 5 H rfl (wanted_none rfl) rfl (by decide) (by kernel_rfl) (by kernel_rfl) (by kernel_rfl) FSq (fun w' hSw => (x_fieldAddr H rfl rfl (fa141_2 _ _))) ?_
            clear H a; intro a H
            refine g_take 6 H rfl (wanted_none rfl) rfl (by decide) (by kernel_rfl) (by kernel_rfl) (by kernel_rfl) FSq (fun w' hSw => (x_load H rfl rfl (l_cell Try.isAgg56 ((T0.ext hSw).at_ (i := 2) rfl)))) ?_
            clear H a; intro a H
            refine g_take 7 H rfl (wanted_none rfl) rfl (by decide) (by kernel_rfl) (by kernel_rfl) (by kernel_rfl) FSq (fun w' hSw => (x_lookup H rfl rfl rfl (map_look (map_ext HM0 hSw) y.idx hok.idx _ hat))) ?_
            clear H a; intro a H
            refine g_call 8 H rfl (by kernel_rfl) (wanted_none rfl) rfl (by decide) rfl rfl (Try.call73 _) (requal_any y y uy u2 _ hok hok hzp.zl hz2.zl) ?_
            clear H a
            rintro e we ⟨rfl, Fe⟩
            replace RK := RK.ext Fe
            replace RL := RL.ext Fe
            replace IT := IT.ext Fe
            replace HM := map_ext HM Fe
            replace E := E.tr Fe
            replace FSq := FSq.tr Fe
            refine ⟨_, rfl, FSq, fun a H => ?_⟩
            rw [rcd_refl] at H
            refine g_take 9 H rfl (wanted_none rfl) rfl (by decide) (by kernel_rfl) (by kernel_rfl) (by kernel_rfl) FSq (fun w' hSw => (x_un H rfl rfl (u_not (c := false) (rfl)))) ?_
            clear H a; intro a H
            refine g_done (by kernel_rfl) (hR.out _ _ ?_)
            clear hR R
            refine hK39 _ _ ?_
            clear hK39 K39
            refine c_false H rfl ?_
            refine wp_skip ?_
            refine hK37 _ _ ?_
            clear hK37 K37
            refine e_region (fun R hR => ?_)
            refine e_op H rfl rfl (by decide) (x_binI H rfl rfl rfl (b_add (z := ((j + 1 : Nat) : Int)) (by rw [IntKind.wrap_i64]; omega))) ?_
            clear H a; intro a H
            refine e_op H rfl rfl (by decide) (x_move H rfl rfl) ?_
            clear H a; intro a H
            refine e_nil (hR.out _ _ ?_)
            clear hR R
            exact ⟨r.list.length - (j + 1), by omega, j + 1, by omega, rfl, H.sub ⟨rfl, rfl, rfl, rfl, rfl, trivial⟩, RK, RL, IT, HM, E⟩
          · skip
            skip
            refine wp_seq_k (fun K40 hK40 => ?_)
            refine e_region (fun R hR => ?_)
            refine e_op H rfl rfl (by decide) (x_binI H rfl rfl rfl (b_lss (b := false) (dec_f (by omega)))) ?_
            clear H a; intro a H
            refine e_nil (hR.out _ _ ?_)
            clear hR R
            refine hK40 _ _ ?_
            clear hK40 K40
            refine wp_seq_k (fun K41 hK41 => ?_)
            refine c_false H rfl ?_
            refine wp_exit ?_
            refine t_exit ?_
            refine t_exit ?_
            refine b_hit ?_
            clear hK41 K41
            refine hK33 _ _ ?_
            clear hK33 K33
            refine wp_seq_k (fun K42 hK42 => ?_)
            refine e_region (fun R hR => ?_)
            refine e_op H rfl rfl (by decide) (x_assign H rfl rfl) ?_
            clear H a; intro a H
            refine e_nil (hR.out _ _ ?_)
            clear hR R
            refine hK42 _ _ ?_
            clear hK42 K42
            refine wp_ret ?_
            exact ret1 H rfl rfl ⟨rfl, E⟩
      · skip
        by_cases hlo : 0 < r.lost
        · skip
          rw [decide_eq_true hlo] at H
          have hrec : r.records = markR r :: r.list := by unfold Rg.records; rw [if_pos hlo]
          obtain ⟨p0, krest, rfl⟩ : ∃ p l, ks = p :: l := by
            cases ks with
            | nil => rw [hrec] at hks; simp at hks
            | cons p l => exact ⟨p, l, rfl⟩
          obtain ⟨y0, u0⟩ := p0
          rw [hrec] at hks
          simp only [List.map_cons, List.cons.injEq] at hks
          obtain ⟨rfl, hkr⟩ := hks
          obtain ⟨gk, ok, hka, _, _, hz0, _⟩ := RK.at_ 0 (markR r, u0) rfl
          subst hka
          simp only at hz0
          refine c_true H rfl ?_
          refine wp_seq_k (fun K43 hK43 => ?_)
          refine wp_seq_k (fun K44 hK44 => ?_)
          obtain ⟨wd, hwd⟩ : ∃ wx, wx = wc.drew := ⟨_, rfl⟩
          have Ewd : Ext wc wd := by rw [hwd]; exact (Ext.refl _).dr
          replace RK := RK.ext Ewd
          replace RL := RL.ext Ewd
          replace D7 := D7.ext Ewd
          replace IT := IT.ext Ewd
          replace HM := map_ext HM Ewd
          replace E := E.tr Ewd
          replace hz0 := hz0.ext Ewd
          have D70 := D7
          have RK0 := RK
          have FSq := Ext.refl wd
          refine g_start (fun w' => Ext wd w') (by kernel_rfl) (fun R hR => ?_)
          rw [← hwd]
          refine g_take 0 H rfl (wanted_none rfl) rfl (by decide) (by kernel_rfl) (by kernel_rfl) (by kernel_rfl) FSq (fun w' hSw => (x_move H rfl rfl)) ?_
          clear H a; intro a H
          refine g_take 1 H rfl (wanted_none rfl) rfl (by decide) (by kernel_rfl) (by kernel_rfl) (by kernel_rfl) FSq (fun w' hSw => (x_builtin H rfl rfl (fun cs => len_sl under84))) ?_
          clear H a; intro a H
          refine g_take 2 H rfl (wanted_none rfl) rfl (by decide) (by kernel_rfl) (by kernel_rfl) (by kernel_rfl) FSq (fun w' hSw => (x_binI H rfl rfl rfl (b_eql (b := false) (beq_f (by simp only [List.length_cons]; omega))))) ?_
          clear H a; intro a H
          refine g_take 3 H rfl (wanted_none rfl) rfl (by decide) (by kernel_rfl) (by kernel_rfl) (by kernel_rfl) FSq (fun w' hSw => (x_move H rfl rfl)) ?_
          clear H a; intro a H
          refine g_take 4 H rfl (wanted_true H rfl rfl rfl rfl) rfl (by decide) (by kernel_rfl) (by kernel_rfl) (by kernel_rfl) FSq (fun w' hSw => (x_move H rfl rfl)) ?_
          clear H a; intro a H
          refine g_take 5 H rfl (wanted_true H rfl rfl rfl rfl) rfl (by decide) (by kernel_rfl) (by kernel_rfl) (by kernel_rfl) FSq (fun w' hSw => (x_indexAddr H rfl rfl rfl (i_slN (m := 0) under84 size95 rfl (by simp)))) ?_
          clear H a; intro a H
          refine g_take 6 H rfl (wanted_true H rfl rfl rfl rfl) rfl (by decide) (by kernel_rfl) (by kernel_rfl) (by kernel_rfl) FSq (fun w' hSw => (x_load H rfl rfl (ld_elem (RK0.ext hSw) 0 (markR r, u0) rfl))) ?_
          clear H a; intro a H
          refine g_take 7 H rfl (wanted_true H rfl rfl rfl rfl) rfl (by decide) (by kernel_rfl) (by kernel_rfl) (by kernel_rfl) FSq (fun w' hSw => (x_fieldAddr H rfl rfl (fa135_3 _ _))) ?_
          clear H a; intro a H
          refine g_take 8 H rfl (wanted_true H rfl rfl rfl rfl) rfl (by decide) (by kernel_rfl) (by kernel_rfl) (by kernel_rfl) FSq (fun w' hSw => (x_load H rfl rfl (l_cell Try.isAgg3 ((D70.ext hSw).at_ (i := 3) rfl)))) ?_
          clear H a; intro a H
          refine g_take 9 H rfl (wanted_true H rfl rfl rfl rfl) rfl (by decide) (by kernel_rfl) (by kernel_rfl) (by kernel_rfl) FSq (fun w' hSw => (x_fieldAddr H rfl rfl (fa135_4 _ _))) ?_
          clear H a; intro a H
          refine g_take 10 H rfl (wanted_true H rfl rfl rfl rfl) rfl (by decide) (by kernel_rfl) (by kernel_rfl) (by kernel_rfl) FSq (fun w' hSw => (x_load H rfl rfl (l_cell Try.isAgg56 ((D70.ext hSw).at_ (i := 4) rfl)))) ?_
          clear H a; intro a H
          refine g_take 11 H rfl (wanted_true H rfl rfl rfl rfl) rfl (by decide) (by kernel_rfl) (by kernel_rfl) (by kernel_rfl) FSq (fun w' hSw => (x_move H rfl rfl)) ?_
          clear H a; intro a H
          refine g_take 12 H rfl (wanted_true H rfl rfl rfl rfl) rfl (by decide) (by kernel_rfl) (by kernel_rfl) (by kernel_rfl) FSq (fun w' hSw => (x_build H rfl rfl (bldmark _ _ _ _))) ?_
          clear H a; intro a H
          refine g_call 13 H rfl (by kernel_rfl) (wanted_true H rfl rfl rfl rfl) rfl (by decide) rfl rfl (Try.call73 _) (requal_any (markR r) (markR r) u0 (.slice none 0 0) _ hmo hmo hz0.zl (zl_nil _)) ?_
          clear H a
          rintro e we ⟨rfl, Fe⟩
          replace RK := RK.ext Fe
          replace RL := RL.ext Fe
          replace D7 := D7.ext Fe
          replace IT := IT.ext Fe
          replace HM := map_ext HM Fe
          replace E := E.tr Fe
          replace FSq := FSq.tr Fe
          refine ⟨_, rfl, FSq, fun a H => ?_⟩
          rw [rcd_refl] at H
          refine g_take 14 H rfl (wanted_true H rfl rfl rfl rfl) rfl (by decide) (by kernel_rfl) (by kernel_rfl) (by kernel_rfl) FSq (fun w' hSw => (x_un H rfl rfl (u_not (c := false) (rfl)))) ?_
          clear H a; intro a H
          refine g_take 15 H rfl (wanted_none rfl) rfl (by decide) (by kernel_rfl) (by kernel_rfl) (by kernel_rfl) FSq (fun w' hSw => (x_pickF H rfl rfl rfl)) ?_
          clear H a; intro a H
          refine g_done (by kernel_rfl) (hR.out _ _ ?_)
          clear hR R
          refine hK44 _ _ ?_
          clear hK44 K44
          refine c_false H rfl ?_
          refine wp_skip ?_
          refine hK43 _ _ ?_
          clear hK43 K43
          refine e_region (fun R hR => ?_)
          refine e_op H rfl rfl (by decide) (x_move H rfl rfl) ?_
          clear H a; intro a H
          refine e_op H rfl rfl (by decide) (x_slice H rfl rfl rfl rfl (sl_loN (lo := 1) under84 size95 rfl (by simp))) ?_
          clear H a; intro a H
          refine e_op H rfl rfl (by decide) (x_assign H rfl rfl) ?_
          clear H a; intro a H
          refine e_nil (hR.out _ _ ?_)
          clear hR R
          have RK2 := RK.cut (by rfl) 1 (by simp)
          obtain ⟨vf, hvf⟩ : ∃ v, v = (if kc = 1 then some (⟨gk, ok, none⟩ : Addr) else Option.map (fun (y : Addr) => y.add (1 * 29)) (some (⟨gk, ok, none⟩ : Addr))) := ⟨_, rfl⟩
          rw [← hvf] at H RK2
          simp only [List.length_cons, Nat.add_sub_cancel, List.drop_succ_cons, List.drop_zero] at H RK2
          exact ⟨rfl, vf, kc - 1, krest, H.sub ⟨rfl, rfl, rfl, trivial⟩, RK2, hkr, RL, D7, IT, HM, E⟩
        · skip
          rw [decide_eq_false hlo] at H
          refine c_false H rfl ?_
          refine wp_skip ?_
          exact ⟨rfl, ka, kc, ks, H.sub ⟨rfl, rfl, rfl, trivial⟩, RK, (by rw [hks]; unfold Rg.records; rw [if_neg hlo]), RL, D7, IT, HM, E⟩
end Go.Proofs.Ytknllmcpogoeoaa
