/- Put, walked. -/
import Derived.Test.YtknllmcpogoeoaaR10
import Derived.Test.YtknllmcpogoeoaaRs
namespace Go.Proofs.Ytknllmcpogoeoaa
open Go.RowKit
set_option linter.unusedVariables false
set_option linter.unusedSimpArgs false
set_option maxRecDepth 100000
theorem words16 (ws : List Nat) (h : ws.length = 16) : ∃ a0 a1 a2 a3 a4 a5 a6 a7 a8 a9 a10 a11 a12 a13 a14 a15, ws = [a0, a1, a2, a3, a4, a5, a6, a7, a8, a9, a10, a11, a12, a13, a14, a15] := by
  match ws, h with
  | [a0, a1, a2, a3, a4, a5, a6, a7, a8, a9, a10, a11, a12, a13, a14, a15], _ => exact ⟨a0, a1, a2, a3, a4, a5, a6, a7, a8, a9, a10, a11, a12, a13, a14, a15, rfl⟩
theorem bs84 (x : Rcd) (a : Option Addr) (n c : Nat) (h16 : x.words.length = 16) (w : World) : (Instr.buildSlice 84 1 #[(0, .agg (x.cells (.slice a n c)).toArray)]).run Try.prog w = .ok (.slice (some ⟨w.heap.size, 0, none⟩) 1 1) (w.alloc (.cells (x.cells (.slice a n c)).toArray 95)) := by
  obtain ⟨era, idx, words, what, ev, lost⟩ := x
  obtain ⟨a0, a1, a2, a3, a4, a5, a6, a7, a8, a9, a10, a11, a12, a13, a14, a15, rfl⟩ := words16 words h16
  kernel_rfl
theorem el84 : ElemT 84 95 29 248 (.agg zero95.toArray) := ⟨under84, by kernel_rfl, rfl, by decide⟩
theorem sizes_le (l : List Rcd) (h : ∀ x ∈ l, x.words.length = 16) : sizes l ≤ l.length * 400 := by
  induction l with
  | nil => simp [sizes]
  | cons x r ih =>
    have h1 := size_le x (h x (List.mem_cons_self ..))
    have h2 := ih (fun y hy => h y (List.mem_cons_of_mem _ hy))
    unfold sizes at h2 ⊢
    rw [List.map_cons, List.sum_cons, List.length_cons]
    omega
section
variable {w w' : World} {B g : Nat} {v : Value} {ps : List (Rcd × Value)} {cs : List Value}
theorem Rl.ne (h : Rl w B v ps) (RB : Blk w g 191 cs) : ∀ k, v.ownBlock = some k → k ≠ g := by
  rintro k hk rfl
  obtain ⟨_, _, cur, hc⟩ := h.row.blk k hk
  unfold Blk at RB
  rw [RB] at hc
  simp at hc
theorem Blk.no2 (RB : Blk w g 191 cs) : ∀ b ∈ [g], ∀ cur, w.heap[b]? ≠ some (.cells cur 2 (0, 0)) := by
  intro b hb cur e
  simp only [List.mem_singleton] at hb
  subst hb
  unfold Blk at RB
  rw [RB] at e
  simp at e
theorem Rl.no2 (h : Rl w B v ps) (RB : Blk w g 191 cs) : ∀ b ∈ g :: v.ownBlock.toList, ∀ cur, w.heap[b]? ≠ some (.cells cur 2 (0, 0)) := by
  intro b hb cur e
  rcases List.mem_cons.1 hb with rfl | hb
  · exact RB.no2 b (by simp) cur e
  · obtain ⟨_, _, cur', hc⟩ := h.row.blk b (by simpa using hb)
    rw [hc] at e
    simp at e
theorem Rl.fg (h : Rl w B v ps) (RB : Blk w g 191 cs) (F : Frm [g] w w') : Rl w' B v ps :=
  h.frm F (fun k hk => by simpa using h.ne RB k hk) RB.no2
end
/-- what a put leaves -/
def RPutPost (w0 : World) (B g : Nat) (v : Value) (r : Rg) (x : Rcd) (e : Ending) (w' : World) : Prop :=
  ∃ v' ps', e = .returned (.tuple #[.int .i64 (((r.put x).2.1 : Nat) : Int), .int .i64 (((r.put x).2.2 : Nat) : Int)]) ∧ Rn w' B g v' ps' (r.put x).1 ∧ Frm (g :: v.ownBlock.toList) w0 w' ∧ (v'.ownBlock = none ∨ v'.ownBlock = v.ownBlock ∨ ∃ b, v'.ownBlock = some b ∧ w0.heap.size ≤ b)
theorem ld_elem {w : World} {B gr og n c : Nat} {ps : List (Rcd × Value)} (RL : Rl w B (.slice (some ⟨gr, og, none⟩) n c) ps) (k : Nat) (p : Rcd × Value) (hp : ps[k]? = some p) : (Instr.loadAt 95 (.pointer (some ⟨gr, og + k * 29, none⟩))).run Try.prog w = .ok (.agg (p.1.cells p.2).toArray) w := by
  obtain ⟨gb, off, hgb, hcl, hok, _⟩ := RL.at_ k p hp
  simp only [Option.some.injEq, Addr.mk.injEq] at hgb
  obtain ⟨rfl, rfl, _⟩ := hgb
  exact l_part isAgg95 (fun w => by rw [Rcd.cells_len _ _ hok.words]; exact size95 w) hcl
theorem addN1 {w0 : World} {B g : Nat} {v : Value} {ps : List (Rcd × Value)} {r : Rg} {x : Rcd} (R0 : Rn w0 B g v ps r) (hx : x.ok) : (r.add x).first < 18446744073709551616 := by
  show (if r.begun then r.first else x.idx) < _
  split
  · exact R0.n1
  · exact hx.idx
theorem addN2 (x : Rcd) : nextOf x < 18446744073709551616 := by
  unfold nextOf
  split <;> exact Nat.mod_lt _ (by omega)
theorem addE {w0 : World} {B g : Nat} {v : Value} {ps : List (Rcd × Value)} {r : Rg} {x : Rcd} (R0 : Rn w0 B g v ps r) (hx : x.ok) : -9223372036854775808 ≤ (r.add x).era ∧ (r.add x).era ≤ 9223372036854775807 := by
  show _ ≤ (if r.begun then r.era else x.era) ∧ (if r.begun then r.era else x.era) ≤ _
  split
  · exact R0.e1
  · exact hx.era
theorem put_bad (B g : Nat) (v : Value) (ps : List (Rcd × Value)) (r : Rg) (x : Rcd) (w0 : World) (R0 : Rn w0 B g v ps r) (hx : x.ok) (ua : Option Addr) (un uc : Nat) (hu : Zl w0 (.slice ua un uc) x.ev.args) (hg : x.good = false) : Calls Try.prog 68 #[.pointer (some ⟨g, 0, none⟩), .agg (x.cells (.slice ua un uc)).toArray] w0 fun e w' => e = .returned (.tuple #[.int .i64 0, .int .i64 1]) ∧ Ext w0 w' := by
  obtain ⟨va, vc, rfl, hvc, hvn⟩ := R0.lst.row.shape
  refine calls_has (args := [.pointer (some ⟨g, 0, none⟩), .agg (x.cells (.slice ua un uc)).toArray]) Try.func68 rfl Try.ntmps68 (Nat.le_of_ble_eq_true rfl) (fun a H => ?_)
  simp only [argl, Nat.reduceAdd] at H
  refine wp_seq_k (fun K1 hK1 => ?_)
  refine e_region (fun R hR => ?_)
  refine e_op H rfl rfl (by decide) (x_box H rfl rfl bx_new) ?_
  clear H a; intro a H
  have T := Blk.new w0 95 (x.cells (.slice ua un uc))
  have E1 := (Ext.refl w0).al (.cells (x.cells (.slice ua un uc)).toArray 95)
  obtain ⟨g1, hg1⟩ : ∃ g, g = w0.heap.size := ⟨_, rfl⟩
  rw [← hg1] at H T
  generalize w0.alloc (.cells (x.cells (.slice ua un uc)).toArray 95) = w1 at *
  have RB := R0.blk.ext E1
  have RL := R0.lst.ext E1
  refine e_op H rfl rfl (by decide) (x_assign H rfl rfl) ?_
  clear H a; intro a H
  refine e_op H rfl rfl (by decide) (x_assign H rfl rfl) ?_
  clear H a; intro a H
  refine e_nil (hR.out _ _ ?_)
  clear hR R
  refine hK1 _ _ ?_
  clear hK1 K1
  refine wp_seq_k (fun K2 hK2 => ?_)
  refine wp_seq_k (fun K3 hK3 => ?_)
  refine e_region (fun R hR => ?_)
  refine e_op H rfl rfl (by decide) (x_move H rfl rfl) ?_
  clear H a; intro a H
  refine e_op H rfl rfl (by decide) (x_bin H rfl rfl rfl (by rw [eqGuard_at_pointer]; rfl) (b_pnil (c := false) under81 rfl)) ?_
  clear H a; intro a H
  refine e_op H rfl rfl (by decide) (x_move H rfl rfl) ?_
  clear H a; intro a H
  refine e_opg H (wanted_true H rfl rfl rfl rfl) rfl (by decide) (x_load H rfl rfl (ld_rec T hx.words)) ?_
  clear H a; intro a H
  refine e_callqg H (wanted_true H rfl rfl rfl rfl) rfl (by decide) rfl rfl (Try.call90 _) (check_any x (.slice ua un uc) w1 hx (hu.ext E1)) ?_
  clear H a
  rintro e w2 ⟨rfl, E2⟩
  refine ⟨_, rfl, fun a H => ?_⟩
  rw [hg] at H
  replace T := T.ext E2
  replace RB := RB.ext E2
  replace RL := RL.ext E2
  refine e_opg H (wanted_true H rfl rfl rfl rfl) rfl (by decide) (x_binI H rfl rfl rfl (b_neq (b := true) (rfl))) ?_
  clear H a; intro a H
  refine e_op H rfl rfl (by decide) (x_pickF H rfl rfl rfl) ?_
  clear H a; intro a H
  refine e_op H rfl rfl (by decide) (x_move H rfl rfl) ?_
  clear H a; intro a H
  refine e_skip H (wanted_false H rfl rfl rfl rfl) rfl (by decide) ?_
  clear H a; intro a H
  refine e_skip H (wanted_false H rfl rfl rfl rfl) rfl (by decide) ?_
  clear H a; intro a H
  refine e_skip H (wanted_false H rfl rfl rfl rfl) rfl (by decide) ?_
  clear H a; intro a H
  refine e_op H rfl rfl (by decide) (x_pickT H rfl rfl rfl) ?_
  clear H a; intro a H
  refine e_nil (hR.out _ _ ?_)
  clear hR R
  refine hK3 _ _ ?_
  clear hK3 K3
  refine c_true H rfl ?_
  refine wp_seq_k (fun K4 hK4 => ?_)
  refine e_region (fun R hR => ?_)
  refine e_op H rfl rfl (by decide) (x_assign H rfl rfl) ?_
  clear H a; intro a H
  refine e_op H rfl rfl (by decide) (x_assign H rfl rfl) ?_
  clear H a; intro a H
  refine e_nil (hR.out _ _ ?_)
  clear hR R
  refine hK4 _ _ ?_
  clear hK4 K4
  refine wp_ret ?_
  refine t_ret ?_
  exact ret2 H rfl rfl rfl ⟨rfl, E1.tr E2⟩
theorem put_end (B g : Nat) (v : Value) (ps : List (Rcd × Value)) (r : Rg) (x : Rcd) (w0 : World) (R0 : Rn w0 B g v ps r) (hx : x.ok) (ua : Option Addr) (un uc : Nat) (hu : Zl w0 (.slice ua un uc) x.ev.args) (hg : x.good = true) (hw3 : x.what = 3) : Calls Try.prog 68 #[.pointer (some ⟨g, 0, none⟩), .agg (x.cells (.slice ua un uc)).toArray] w0 fun e w' => e = .returned (.tuple #[.int .i64 0, .int .i64 1]) ∧ Ext w0 w' := by
  obtain ⟨va, vc, rfl, hvc, hvn⟩ := R0.lst.row.shape
  have hend : (((x.what : Nat) : Int) == 3) = true := by simp; omega
  refine calls_has (args := [.pointer (some ⟨g, 0, none⟩), .agg (x.cells (.slice ua un uc)).toArray]) Try.func68 rfl Try.ntmps68 (Nat.le_of_ble_eq_true rfl) (fun a H => ?_)
  simp only [argl, Nat.reduceAdd] at H
  refine wp_seq_k (fun K1 hK1 => ?_)
  refine e_region (fun R hR => ?_)
  refine e_op H rfl rfl (by decide) (x_box H rfl rfl bx_new) ?_
  clear H a; intro a H
  have T := Blk.new w0 95 (x.cells (.slice ua un uc))
  have E1 := (Ext.refl w0).al (.cells (x.cells (.slice ua un uc)).toArray 95)
  obtain ⟨g1, hg1⟩ : ∃ g, g = w0.heap.size := ⟨_, rfl⟩
  rw [← hg1] at H T
  generalize w0.alloc (.cells (x.cells (.slice ua un uc)).toArray 95) = w1 at *
  have RB := R0.blk.ext E1
  have RL := R0.lst.ext E1
  refine e_op H rfl rfl (by decide) (x_assign H rfl rfl) ?_
  clear H a; intro a H
  refine e_op H rfl rfl (by decide) (x_assign H rfl rfl) ?_
  clear H a; intro a H
  refine e_nil (hR.out _ _ ?_)
  clear hR R
  refine hK1 _ _ ?_
  clear hK1 K1
  refine wp_seq_k (fun K2 hK2 => ?_)
  refine wp_seq_k (fun K3 hK3 => ?_)
  refine e_region (fun R hR => ?_)
  refine e_op H rfl rfl (by decide) (x_move H rfl rfl) ?_
  clear H a; intro a H
  refine e_op H rfl rfl (by decide) (x_bin H rfl rfl rfl (by rw [eqGuard_at_pointer]; rfl) (b_pnil (c := false) under81 rfl)) ?_
  clear H a; intro a H
  refine e_op H rfl rfl (by decide) (x_move H rfl rfl) ?_
  clear H a; intro a H
  refine e_opg H (wanted_true H rfl rfl rfl rfl) rfl (by decide) (x_load H rfl rfl (ld_rec T hx.words)) ?_
  clear H a; intro a H
  refine e_callqg H (wanted_true H rfl rfl rfl rfl) rfl (by decide) rfl rfl (Try.call90 _) (check_any x (.slice ua un uc) w1 hx (hu.ext E1)) ?_
  clear H a
  rintro e w2 ⟨rfl, E2⟩
  refine ⟨_, rfl, fun a H => ?_⟩
  rw [hg] at H
  replace T := T.ext E2
  replace RB := RB.ext E2
  replace RL := RL.ext E2
  refine e_opg H (wanted_true H rfl rfl rfl rfl) rfl (by decide) (x_binI H rfl rfl rfl (b_neq (b := false) (rfl))) ?_
  clear H a; intro a H
  refine e_op H rfl rfl (by decide) (x_pickF H rfl rfl rfl) ?_
  clear H a; intro a H
  refine e_op H rfl rfl (by decide) (x_move H rfl rfl) ?_
  clear H a; intro a H
  refine e_opg H (wanted_true H rfl rfl rfl rfl) rfl (by decide) (x_fieldAddr H rfl rfl (fa95_3 _ _)) ?_
  clear H a; intro a H
  refine e_opg H (wanted_true H rfl rfl rfl rfl) rfl (by decide) (x_load H rfl rfl (l_cell Try.isAgg89 (T.at_ (rc_what hx.words)))) ?_
  clear H a; intro a H
  refine e_opg H (wanted_true H rfl rfl rfl rfl) rfl (by decide) (x_binI H rfl rfl rfl (b_eql (b := true) (hend))) ?_
  clear H a; intro a H
  refine e_op H rfl rfl (by decide) (x_pickF H rfl rfl rfl) ?_
  clear H a; intro a H
  refine e_nil (hR.out _ _ ?_)
  clear hR R
  refine hK3 _ _ ?_
  clear hK3 K3
  refine c_true H rfl ?_
  refine wp_seq_k (fun K4 hK4 => ?_)
  refine e_region (fun R hR => ?_)
  refine e_op H rfl rfl (by decide) (x_assign H rfl rfl) ?_
  clear H a; intro a H
  refine e_op H rfl rfl (by decide) (x_assign H rfl rfl) ?_
  clear H a; intro a H
  refine e_nil (hR.out _ _ ?_)
  clear hR R
  refine hK4 _ _ ?_
  clear hK4 K4
  refine wp_ret ?_
  refine t_ret ?_
  exact ret2 H rfl rfl rfl ⟨rfl, E1.tr E2⟩
theorem put_era (B g : Nat) (v : Value) (ps : List (Rcd × Value)) (r : Rg) (x : Rcd) (w0 : World) (R0 : Rn w0 B g v ps r) (hx : x.ok) (ua : Option Addr) (un uc : Nat) (hu : Zl w0 (.slice ua un uc) x.ev.args) (hg : x.good = true) (hw3 : x.what ≠ 3) (hb : r.begun = true) (he : x.era ≠ r.era) : Calls Try.prog 68 #[.pointer (some ⟨g, 0, none⟩), .agg (x.cells (.slice ua un uc)).toArray] w0 fun e w' => e = .returned (.tuple #[.int .i64 0, .int .i64 11]) ∧ Ext w0 w' := by
  obtain ⟨va, vc, rfl, hvc, hvn⟩ := R0.lst.row.shape
  have hend : (((x.what : Nat) : Int) == 3) = false := by simp; omega
  have hera : (x.era != r.era) = true := by simp [he]
  refine calls_has (args := [.pointer (some ⟨g, 0, none⟩), .agg (x.cells (.slice ua un uc)).toArray]) Try.func68 rfl Try.ntmps68 (Nat.le_of_ble_eq_true rfl) (fun a H => ?_)
  simp only [argl, Nat.reduceAdd] at H
  refine wp_seq_k (fun K1 hK1 => ?_)
  refine e_region (fun R hR => ?_)
  refine e_op H rfl rfl (by decide) (x_box H rfl rfl bx_new) ?_
  clear H a; intro a H
  have T := Blk.new w0 95 (x.cells (.slice ua un uc))
  have E1 := (Ext.refl w0).al (.cells (x.cells (.slice ua un uc)).toArray 95)
  obtain ⟨g1, hg1⟩ : ∃ g, g = w0.heap.size := ⟨_, rfl⟩
  rw [← hg1] at H T
  generalize w0.alloc (.cells (x.cells (.slice ua un uc)).toArray 95) = w1 at *
  have RB := R0.blk.ext E1
  have RL := R0.lst.ext E1
  refine e_op H rfl rfl (by decide) (x_assign H rfl rfl) ?_
  clear H a; intro a H
  refine e_op H rfl rfl (by decide) (x_assign H rfl rfl) ?_
  clear H a; intro a H
  refine e_nil (hR.out _ _ ?_)
  clear hR R
  refine hK1 _ _ ?_
  clear hK1 K1
  refine wp_seq_k (fun K2 hK2 => ?_)
  refine wp_seq_k (fun K3 hK3 => ?_)
  refine e_region (fun R hR => ?_)
  refine e_op H rfl rfl (by decide) (x_move H rfl rfl) ?_
  clear H a; intro a H
  refine e_op H rfl rfl (by decide) (x_bin H rfl rfl rfl (by rw [eqGuard_at_pointer]; rfl) (b_pnil (c := false) under81 rfl)) ?_
  clear H a; intro a H
  refine e_op H rfl rfl (by decide) (x_move H rfl rfl) ?_
  clear H a; intro a H
  refine e_opg H (wanted_true H rfl rfl rfl rfl) rfl (by decide) (x_load H rfl rfl (ld_rec T hx.words)) ?_
  clear H a; intro a H
  refine e_callqg H (wanted_true H rfl rfl rfl rfl) rfl (by decide) rfl rfl (Try.call90 _) (check_any x (.slice ua un uc) w1 hx (hu.ext E1)) ?_
  clear H a
  rintro e w2 ⟨rfl, E2⟩
  refine ⟨_, rfl, fun a H => ?_⟩
  rw [hg] at H
  replace T := T.ext E2
  replace RB := RB.ext E2
  replace RL := RL.ext E2
  refine e_opg H (wanted_true H rfl rfl rfl rfl) rfl (by decide) (x_binI H rfl rfl rfl (b_neq (b := false) (rfl))) ?_
  clear H a; intro a H
  refine e_op H rfl rfl (by decide) (x_pickF H rfl rfl rfl) ?_
  clear H a; intro a H
  refine e_op H rfl rfl (by decide) (x_move H rfl rfl) ?_
  clear H a; intro a H
  refine e_opg H (wanted_true H rfl rfl rfl rfl) rfl (by decide) (x_fieldAddr H rfl rfl (fa95_3 _ _)) ?_
  clear H a; intro a H
  refine e_opg H (wanted_true H rfl rfl rfl rfl) rfl (by decide) (x_load H rfl rfl (l_cell Try.isAgg89 (T.at_ (rc_what hx.words)))) ?_
  clear H a; intro a H
  refine e_opg H (wanted_true H rfl rfl rfl rfl) rfl (by decide) (x_binI H rfl rfl rfl (b_eql (b := false) (hend))) ?_
  clear H a; intro a H
  refine e_op H rfl rfl (by decide) (x_pickF H rfl rfl rfl) ?_
  clear H a; intro a H
  refine e_nil (hR.out _ _ ?_)
  clear hR R
  refine hK3 _ _ ?_
  clear hK3 K3
  refine c_false H rfl ?_
  refine wp_skip ?_
  refine hK2 _ _ ?_
  clear hK2 K2
  refine wp_seq_k (fun K4 hK4 => ?_)
  refine wp_seq_k (fun K5 hK5 => ?_)
  refine e_quiet (by kernel_rfl) (by kernel_rfl) (fun R hR => ?_)
  obtain ⟨w3, hw3⟩ : ∃ wx, wx = w2.drew := ⟨_, rfl⟩
  have Ew3 : Ext w2 w3 := by rw [hw3]; exact (Ext.refl _).dr
  replace RB := RB.ext Ew3
  replace RL := RL.ext Ew3
  replace T := T.ext Ew3
  rw [← hw3]
  refine s_op H rfl rfl (by decide) (x_move H rfl rfl) ?_
  clear H a; intro a H
  refine s_op H rfl rfl (by decide) (x_nilCheck H rfl rfl) ?_
  clear H a; intro a H
  refine s_op H rfl rfl (by decide) (x_fieldAddr H rfl rfl (fa191_3 _ _)) ?_
  clear H a; intro a H
  refine s_op H rfl rfl (by decide) (x_load H rfl rfl (l_cell Try.isAgg4 ((show _ = some (.bool true) by rw [← hb]; exact RB.at_ (i := 3) rfl)))) ?_
  clear H a; intro a H
  refine s_op H rfl rfl (by decide) (x_move H rfl rfl) ?_
  clear H a; intro a H
  refine s_opg H (wanted_true H rfl rfl rfl rfl) rfl (by decide) (x_fieldAddr H rfl rfl (fa95_0 _ _)) ?_
  clear H a; intro a H
  refine s_opg H (wanted_true H rfl rfl rfl rfl) rfl (by decide) (x_load H rfl rfl (l_cell Try.isAgg3 (T.at_ (i := 0) rfl))) ?_
  clear H a; intro a H
  refine s_opg H (wanted_true H rfl rfl rfl rfl) rfl (by decide) (x_move H rfl rfl) ?_
  clear H a; intro a H
  refine s_opg H (wanted_true H rfl rfl rfl rfl) rfl (by decide) (x_nilCheck H rfl rfl) ?_
  clear H a; intro a H
  refine s_opg H (wanted_true H rfl rfl rfl rfl) rfl (by decide) (x_fieldAddr H rfl rfl (fa191_4 _ _)) ?_
  clear H a; intro a H
  refine s_opg H (wanted_true H rfl rfl rfl rfl) rfl (by decide) (x_load H rfl rfl (l_cell Try.isAgg3 (RB.at_ (i := 4) rfl))) ?_
  clear H a; intro a H
  refine s_opg H (wanted_true H rfl rfl rfl rfl) rfl (by decide) (x_binI H rfl rfl rfl (b_neq (b := true) (hera))) ?_
  clear H a; intro a H
  refine s_opg H (wanted_true H rfl rfl rfl rfl) rfl (by decide) (x_move H rfl rfl) ?_
  clear H a; intro a H
  refine s_skip H (wanted_false H rfl rfl rfl rfl) rfl (by decide) ?_
  clear H a; intro a H
  refine s_skip H (wanted_false H rfl rfl rfl rfl) rfl (by decide) ?_
  clear H a; intro a H
  refine s_skip H (wanted_false H rfl rfl rfl rfl) rfl (by decide) ?_
  clear H a; intro a H
  refine s_skip H (wanted_false H rfl rfl rfl rfl) rfl (by decide) ?_
  clear H a; intro a H
  refine s_skip H (wanted_false H rfl rfl rfl rfl) rfl (by decide) ?_
  clear H a; intro a H
  refine s_skip H (wanted_false H rfl rfl rfl rfl) rfl (by decide) ?_
  clear H a; intro a H
  refine s_skip H (wanted_false H rfl rfl rfl rfl) rfl (by decide) ?_
  clear H a; intro a H
  refine s_opg H (wanted_true H rfl rfl rfl rfl) rfl (by decide) (x_pickT H rfl rfl rfl) ?_
  clear H a; intro a H
  refine s_op H rfl rfl (by decide) (x_pickT H rfl rfl rfl) ?_
  clear H a; intro a H
  refine wpStill_nil (hR.out _ _ ?_)
  clear hR R
  refine hK5 _ _ ?_
  clear hK5 K5
  refine c_true H rfl ?_
  refine wp_seq_k (fun K6 hK6 => ?_)
  refine e_region (fun R hR => ?_)
  refine e_op H rfl rfl (by decide) (x_assign H rfl rfl) ?_
  clear H a; intro a H
  refine e_op H rfl rfl (by decide) (x_assign H rfl rfl) ?_
  clear H a; intro a H
  refine e_nil (hR.out _ _ ?_)
  clear hR R
  refine hK6 _ _ ?_
  clear hK6 K6
  refine wp_ret ?_
  refine t_ret ?_
  exact ret2 H rfl rfl rfl ⟨rfl, (E1.tr E2).tr Ew3⟩
theorem put_idx (B g : Nat) (v : Value) (ps : List (Rcd × Value)) (r : Rg) (x : Rcd) (w0 : World) (R0 : Rn w0 B g v ps r) (hx : x.ok) (ua : Option Addr) (un uc : Nat) (hu : Zl w0 (.slice ua un uc) x.ev.args) (hg : x.good = true) (hw3 : x.what ≠ 3) (hb : r.begun = true) (he : x.era = r.era) (hi0 : x.idx ≠ r.next) : Calls Try.prog 68 #[.pointer (some ⟨g, 0, none⟩), .agg (x.cells (.slice ua un uc)).toArray] w0 fun e w' => e = .returned (.tuple #[.int .i64 0, .int .i64 11]) ∧ Ext w0 w' := by
  obtain ⟨va, vc, rfl, hvc, hvn⟩ := R0.lst.row.shape
  have hend : (((x.what : Nat) : Int) == 3) = false := by simp; omega
  have hera : (x.era != r.era) = false := by simp [he]
  have hidx : (((x.idx : Nat) : Int) != ((r.next : Nat) : Int)) = true := by simp; omega
  refine calls_has (args := [.pointer (some ⟨g, 0, none⟩), .agg (x.cells (.slice ua un uc)).toArray]) Try.func68 rfl Try.ntmps68 (Nat.le_of_ble_eq_true rfl) (fun a H => ?_)
  simp only [argl, Nat.reduceAdd] at H
  refine wp_seq_k (fun K1 hK1 => ?_)
  refine e_region (fun R hR => ?_)
  refine e_op H rfl rfl (by decide) (x_box H rfl rfl bx_new) ?_
  clear H a; intro a H
  have T := Blk.new w0 95 (x.cells (.slice ua un uc))
  have E1 := (Ext.refl w0).al (.cells (x.cells (.slice ua un uc)).toArray 95)
  obtain ⟨g1, hg1⟩ : ∃ g, g = w0.heap.size := ⟨_, rfl⟩
  rw [← hg1] at H T
  generalize w0.alloc (.cells (x.cells (.slice ua un uc)).toArray 95) = w1 at *
  have RB := R0.blk.ext E1
  have RL := R0.lst.ext E1
  refine e_op H rfl rfl (by decide) (x_assign H rfl rfl) ?_
  clear H a; intro a H
  refine e_op H rfl rfl (by decide) (x_assign H rfl rfl) ?_
  clear H a; intro a H
  refine e_nil (hR.out _ _ ?_)
  clear hR R
  refine hK1 _ _ ?_
  clear hK1 K1
  refine wp_seq_k (fun K2 hK2 => ?_)
  refine wp_seq_k (fun K3 hK3 => ?_)
  refine e_region (fun R hR => ?_)
  refine e_op H rfl rfl (by decide) (x_move H rfl rfl) ?_
  clear H a; intro a H
  refine e_op H rfl rfl (by decide) (x_bin H rfl rfl rfl (by rw [eqGuard_at_pointer]; rfl) (b_pnil (c := false) under81 rfl)) ?_
  clear H a; intro a H
  refine e_op H rfl rfl (by decide) (x_move H rfl rfl) ?_
  clear H a; intro a H
  refine e_opg H (wanted_true H rfl rfl rfl rfl) rfl (by decide) (x_load H rfl rfl (ld_rec T hx.words)) ?_
  clear H a; intro a H
  refine e_callqg H (wanted_true H rfl rfl rfl rfl) rfl (by decide) rfl rfl (Try.call90 _) (check_any x (.slice ua un uc) w1 hx (hu.ext E1)) ?_
  clear H a
  rintro e w2 ⟨rfl, E2⟩
  refine ⟨_, rfl, fun a H => ?_⟩
  rw [hg] at H
  replace T := T.ext E2
  replace RB := RB.ext E2
  replace RL := RL.ext E2
  refine e_opg H (wanted_true H rfl rfl rfl rfl) rfl (by decide) (x_binI H rfl rfl rfl (b_neq (b := false) (rfl))) ?_
  clear H a; intro a H
  refine e_op H rfl rfl (by decide) (x_pickF H rfl rfl rfl) ?_
  clear H a; intro a H
  refine e_op H rfl rfl (by decide) (x_move H rfl rfl) ?_
  clear H a; intro a H
  refine e_opg H (wanted_true H rfl rfl rfl rfl) rfl (by decide) (x_fieldAddr H rfl rfl (fa95_3 _ _)) ?_
  clear H a; intro a H
  refine e_opg H (wanted_true H rfl rfl rfl rfl) rfl (by decide) (x_load H rfl rfl (l_cell Try.isAgg89 (T.at_ (rc_what hx.words)))) ?_
  clear H a; intro a H
  refine e_opg H (wanted_true H rfl rfl rfl rfl) rfl (by decide) (x_binI H rfl rfl rfl (b_eql (b := false) (hend))) ?_
  clear H a; intro a H
  refine e_op H rfl rfl (by decide) (x_pickF H rfl rfl rfl) ?_
  clear H a; intro a H
  refine e_nil (hR.out _ _ ?_)
  clear hR R
  refine hK3 _ _ ?_
  clear hK3 K3
  refine c_false H rfl ?_
  refine wp_skip ?_
  refine hK2 _ _ ?_
  clear hK2 K2
  refine wp_seq_k (fun K4 hK4 => ?_)
  refine wp_seq_k (fun K5 hK5 => ?_)
  refine e_quiet (by kernel_rfl) (by kernel_rfl) (fun R hR => ?_)
  obtain ⟨w3, hw3⟩ : ∃ wx, wx = w2.drew := ⟨_, rfl⟩
  have Ew3 : Ext w2 w3 := by rw [hw3]; exact (Ext.refl _).dr
  replace RB := RB.ext Ew3
  replace RL := RL.ext Ew3
  replace T := T.ext Ew3
  rw [← hw3]
  refine s_op H rfl rfl (by decide) (x_move H rfl rfl) ?_
  clear H a; intro a H
  refine s_op H rfl rfl (by decide) (x_nilCheck H rfl rfl) ?_
  clear H a; intro a H
  refine s_op H rfl rfl (by decide) (x_fieldAddr H rfl rfl (fa191_3 _ _)) ?_
  clear H a; intro a H
  refine s_op H rfl rfl (by decide) (x_load H rfl rfl (l_cell Try.isAgg4 ((show _ = some (.bool true) by rw [← hb]; exact RB.at_ (i := 3) rfl)))) ?_
  clear H a; intro a H
  refine s_op H rfl rfl (by decide) (x_move H rfl rfl) ?_
  clear H a; intro a H
  refine s_opg H (wanted_true H rfl rfl rfl rfl) rfl (by decide) (x_fieldAddr H rfl rfl (fa95_0 _ _)) ?_
  clear H a; intro a H
  refine s_opg H (wanted_true H rfl rfl rfl rfl) rfl (by decide) (x_load H rfl rfl (l_cell Try.isAgg3 (T.at_ (i := 0) rfl))) ?_
  clear H a; intro a H
  refine s_opg H (wanted_true H rfl rfl rfl rfl) rfl (by decide) (x_move H rfl rfl) ?_
  clear H a; intro a H
  refine s_opg H (wanted_true H rfl rfl rfl rfl) rfl (by decide) (x_nilCheck H rfl rfl) ?_
  clear H a; intro a H
  refine s_opg H (wanted_true H rfl rfl rfl rfl) rfl (by decide) (x_fieldAddr H rfl rfl (fa191_4 _ _)) ?_
  clear H a; intro a H
  refine s_opg H (wanted_true H rfl rfl rfl rfl) rfl (by decide) (x_load H rfl rfl (l_cell Try.isAgg3 (RB.at_ (i := 4) rfl))) ?_
  clear H a; intro a H
  refine s_opg H (wanted_true H rfl rfl rfl rfl) rfl (by decide) (x_binI H rfl rfl rfl (b_neq (b := false) (hera))) ?_
  clear H a; intro a H
  refine s_opg H (wanted_true H rfl rfl rfl rfl) rfl (by decide) (x_move H rfl rfl) ?_
  clear H a; intro a H
  refine s_opg H (wanted_true H rfl rfl rfl rfl) rfl (by decide) (x_fieldAddr H rfl rfl (fa95_1 _ _)) ?_
  clear H a; intro a H
  refine s_opg H (wanted_true H rfl rfl rfl rfl) rfl (by decide) (x_load H rfl rfl (l_cell Try.isAgg56 (T.at_ (i := 1) rfl))) ?_
  clear H a; intro a H
  refine s_opg H (wanted_true H rfl rfl rfl rfl) rfl (by decide) (x_move H rfl rfl) ?_
  clear H a; intro a H
  refine s_opg H (wanted_true H rfl rfl rfl rfl) rfl (by decide) (x_nilCheck H rfl rfl) ?_
  clear H a; intro a H
  refine s_opg H (wanted_true H rfl rfl rfl rfl) rfl (by decide) (x_fieldAddr H rfl rfl (fa191_6 _ _)) ?_
  clear H a; intro a H
  refine s_opg H (wanted_true H rfl rfl rfl rfl) rfl (by decide) (x_load H rfl rfl (l_cell Try.isAgg56 (RB.at_ (i := 6) rfl))) ?_
  clear H a; intro a H
  refine s_opg H (wanted_true H rfl rfl rfl rfl) rfl (by decide) (x_binI H rfl rfl rfl (b_neq (b := true) (hidx))) ?_
  clear H a; intro a H
  refine s_opg H (wanted_true H rfl rfl rfl rfl) rfl (by decide) (x_pickF H rfl rfl rfl) ?_
  clear H a; intro a H
  refine s_op H rfl rfl (by decide) (x_pickT H rfl rfl rfl) ?_
  clear H a; intro a H
  refine wpStill_nil (hR.out _ _ ?_)
  clear hR R
  refine hK5 _ _ ?_
  clear hK5 K5
  refine c_true H rfl ?_
  refine wp_seq_k (fun K6 hK6 => ?_)
  refine e_region (fun R hR => ?_)
  refine e_op H rfl rfl (by decide) (x_assign H rfl rfl) ?_
  clear H a; intro a H
  refine e_op H rfl rfl (by decide) (x_assign H rfl rfl) ?_
  clear H a; intro a H
  refine e_nil (hR.out _ _ ?_)
  clear hR R
  refine hK6 _ _ ?_
  clear hK6 K6
  refine wp_ret ?_
  refine t_ret ?_
  exact ret2 H rfl rfl rfl ⟨rfl, (E1.tr E2).tr Ew3⟩
set_option maxHeartbeats 1600000 in
theorem put_ok (B g : Nat) (v : Value) (ps : List (Rcd × Value)) (r : Rg) (x : Rcd) (w0 : World) (R0 : Rn w0 B g v ps r) (hx : x.ok) (ua : Option Addr) (un uc : Nat) (hz : Zw w0 0 (.slice ua un uc) x.ev.args) (hg : x.good = true) (hw3n : x.what ≠ 3) (hbeg : r.begun = true → x.era = r.era ∧ x.idx = r.next) (hn : ps.length ≤ 1000000) (hB : B ≤ w0.heap.size) : Calls Try.prog 68 #[.pointer (some ⟨g, 0, none⟩), .agg (x.cells (.slice ua un uc)).toArray] w0 (RPutPost w0 B g v r x) := by
  obtain ⟨va, vc, rfl, hvc, hvn⟩ := R0.lst.row.shape
  have hu := hz.zl
  have hend : (((x.what : Nat) : Int) == 3) = false := by simp; omega
  have hus0 : r.used ≤ ps.length * 400 := by
    rw [R0.sum]
    have := sizes_le r.list (fun y hy => by rw [← R0.eq] at hy; obtain ⟨q, hq, rfl⟩ := List.mem_map.1 hy; exact R0.lst.w16 q hq)
    rwa [← R0.eq, List.length_map, R0.eq] at this
  have hsx := size_le x hx.words
  have hcode0 : r.code x = 0 := by
    unfold Rg.code
    rw [if_neg (by rw [hg]; simp [hw3n]), if_neg]
    rintro ⟨h, h2 | h2⟩
    · exact h2 (hbeg h).1
    · exact h2 (hbeg h).2
  refine calls_has (args := [.pointer (some ⟨g, 0, none⟩), .agg (x.cells (.slice ua un uc)).toArray]) Try.func68 rfl Try.ntmps68 (Nat.le_of_ble_eq_true rfl) (fun a H => ?_)
  simp only [argl, Nat.reduceAdd] at H
  refine wp_seq_k (fun K1 hK1 => ?_)
  refine e_region (fun R hR => ?_)
  refine e_op H rfl rfl (by decide) (x_box H rfl rfl bx_new) ?_
  clear H a; intro a H
  have T := Blk.new w0 95 (x.cells (.slice ua un uc))
  have E1 := (Ext.refl w0).al (.cells (x.cells (.slice ua un uc)).toArray 95)
  obtain ⟨g1, hg1⟩ : ∃ g, g = w0.heap.size := ⟨_, rfl⟩
  rw [← hg1] at H T
  generalize w0.alloc (.cells (x.cells (.slice ua un uc)).toArray 95) = w1 at *
  have RB := R0.blk.ext E1
  have RL := R0.lst.ext E1
  refine e_op H rfl rfl (by decide) (x_assign H rfl rfl) ?_
  clear H a; intro a H
  refine e_op H rfl rfl (by decide) (x_assign H rfl rfl) ?_
  clear H a; intro a H
  refine e_nil (hR.out _ _ ?_)
  clear hR R
  refine hK1 _ _ ?_
  clear hK1 K1
  refine wp_seq_k (fun K2 hK2 => ?_)
  refine wp_seq_k (fun K3 hK3 => ?_)
  refine e_region (fun R hR => ?_)
  refine e_op H rfl rfl (by decide) (x_move H rfl rfl) ?_
  clear H a; intro a H
  refine e_op H rfl rfl (by decide) (x_bin H rfl rfl rfl (by rw [eqGuard_at_pointer]; rfl) (b_pnil (c := false) under81 rfl)) ?_
  clear H a; intro a H
  refine e_op H rfl rfl (by decide) (x_move H rfl rfl) ?_
  clear H a; intro a H
  refine e_opg H (wanted_true H rfl rfl rfl rfl) rfl (by decide) (x_load H rfl rfl (ld_rec T hx.words)) ?_
  clear H a; intro a H
  refine e_callqg H (wanted_true H rfl rfl rfl rfl) rfl (by decide) rfl rfl (Try.call90 _) (check_any x (.slice ua un uc) w1 hx (hu.ext E1)) ?_
  clear H a
  rintro e w2 ⟨rfl, E2⟩
  refine ⟨_, rfl, fun a H => ?_⟩
  rw [hg] at H
  replace T := T.ext E2
  replace RB := RB.ext E2
  replace RL := RL.ext E2
  refine e_opg H (wanted_true H rfl rfl rfl rfl) rfl (by decide) (x_binI H rfl rfl rfl (b_neq (b := false) (rfl))) ?_
  clear H a; intro a H
  refine e_op H rfl rfl (by decide) (x_pickF H rfl rfl rfl) ?_
  clear H a; intro a H
  refine e_op H rfl rfl (by decide) (x_move H rfl rfl) ?_
  clear H a; intro a H
  refine e_opg H (wanted_true H rfl rfl rfl rfl) rfl (by decide) (x_fieldAddr H rfl rfl (fa95_3 _ _)) ?_
  clear H a; intro a H
  refine e_opg H (wanted_true H rfl rfl rfl rfl) rfl (by decide) (x_load H rfl rfl (l_cell Try.isAgg89 (T.at_ (rc_what hx.words)))) ?_
  clear H a; intro a H
  refine e_opg H (wanted_true H rfl rfl rfl rfl) rfl (by decide) (x_binI H rfl rfl rfl (b_eql (b := false) (hend))) ?_
  clear H a; intro a H
  refine e_op H rfl rfl (by decide) (x_pickF H rfl rfl rfl) ?_
  clear H a; intro a H
  refine e_nil (hR.out _ _ ?_)
  clear hR R
  refine hK3 _ _ ?_
  clear hK3 K3
  refine c_false H rfl ?_
  refine wp_skip ?_
  refine hK2 _ _ ?_
  clear hK2 K2
  refine wp_seq_k (fun K4 hK4 => ?_)
  refine wp_seq_k (fun K5 hK5 => ?_)
  obtain ⟨w3, hw3⟩ : ∃ wx, wx = w2.drew := ⟨_, rfl⟩
  have Ew3 : Ext w2 w3 := by rw [hw3]; exact (Ext.refl _).dr
  replace RB := RB.ext Ew3
  replace RL := RL.ext Ew3
  replace T := T.ext Ew3
  have FF : Frm [g] w0 w3 := ((E1.tr E2).tr Ew3).frm
  have Z := hz.ext ((E1.tr E2).tr Ew3)
  have hgne : g1 ≠ g := by rintro rfl; have := R0.blk.lt; omega
  clear E1 E2 Ew3
  refine Code.wp_mono (Q := fun e a w => e = Exit.normal ∧ Has a 152 [(0, .pointer (some ⟨g, 0, none⟩)), (3, .pointer (some ⟨g1, 0, none⟩)), (40, .bool false)] ∧ w = w3) (fun e a w hM => ?_) ?_
  · skip
    clear H
    obtain ⟨rfl, H, hww⟩ := hM
    rw [hww]
    clear hww w hw3
    refine hK5 _ _ ?_
    clear hK5 K5
    refine c_false H rfl ?_
    refine wp_skip ?_
    refine hK4 _ _ ?_
    clear hK4 K4
    refine wp_seq_k (fun K6 hK6 => ?_)
    refine wp_seq_k (fun K7 hK7 => ?_)
    refine e_region (fun R hR => ?_)
    refine e_op H rfl rfl (by decide) (x_move H rfl rfl) ?_
    clear H a; intro a H
    refine e_op H rfl rfl (by decide) (x_nilCheck H rfl rfl) ?_
    clear H a; intro a H
    refine e_op H rfl rfl (by decide) (x_fieldAddr H rfl rfl (fa191_3 _ _)) ?_
    clear H a; intro a H
    refine e_op H rfl rfl (by decide) (x_load H rfl rfl (l_cell Try.isAgg4 (RB.at_ (i := 3) rfl))) ?_
    clear H a; intro a H
    refine e_op H rfl rfl (by decide) (x_un H rfl rfl (u_not (c := (!r.begun)) (rfl))) ?_
    clear H a; intro a H
    refine e_nil (hR.out _ _ ?_)
    clear hR R
    refine hK7 _ _ ?_
    clear hK7 K7
    refine Code.wp_mono (Q := fun e a w => e = Exit.normal ∧ Has a 152 [(0, .pointer (some ⟨g, 0, none⟩)), (3, .pointer (some ⟨g1, 0, none⟩))] ∧ Blk w g 191 (rgCells r.cap ((r.used : Nat) : Int) (.slice va ps.length vc) true (r.add x).era (r.add x).first r.next) ∧ Rl w B (.slice va ps.length vc) ps ∧ Blk w g1 95 (x.cells (.slice ua un uc)) ∧ Zw w 0 (.slice ua un uc) x.ev.args ∧ Frm [g] w0 w) (fun e a w hM => ?_) ?_
    · skip
      clear H RB RL T Z FF
      obtain ⟨rfl, H, RB, RL, T, Z, FF⟩ := hM
      refine hK6 _ _ ?_
      clear hK6 K6
      refine wp_seq_k (fun K8 hK8 => ?_)
      refine e_region (fun R hR => ?_)
      refine e_op H rfl rfl (by decide) (x_move H rfl rfl) ?_
      clear H a; intro a H
      refine e_op H rfl rfl (by decide) (x_fieldAddr H rfl rfl (fa95_1 _ _)) ?_
      clear H a; intro a H
      refine e_op H rfl rfl (by decide) (x_load H rfl rfl (l_cell Try.isAgg56 (T.at_ (i := 1) rfl))) ?_
      clear H a; intro a H
      refine e_op H rfl rfl (by decide) (x_binI H rfl rfl rfl (b_add (z := (((x.idx + 1) % 18446744073709551616 : Nat) : Int)) (by rw [IntKind.wrap_u64]; omega))) ?_
      clear H a; intro a H
      refine e_op H rfl rfl (by decide) (x_nilCheck H rfl rfl) ?_
      clear H a; intro a H
      refine e_op H rfl rfl (by decide) (x_fieldAddr H rfl rfl (fa191_6 _ _)) ?_
      clear H a; intro a H
      refine e_st H rfl rfl (x_store H rfl rfl rfl (st_cell rfl rfl Try.sizeOf56 (RB.frozen _) (RB.isSome 6 (by simp [rgCells])))) ?_
      have RBn : Blk (w.setCell ⟨g, 6, none⟩ (.int .u64 (((x.idx + 1) % 18446744073709551616 : Nat) : Int))) g 191 (rgCells r.cap ((r.used : Nat) : Int) (.slice va ps.length vc) true (r.add x).era (r.add x).first ((x.idx + 1) % 18446744073709551616)) := RB.set_ 6 (.int .u64 (((x.idx + 1) % 18446744073709551616 : Nat) : Int))
      have Fn : Frm [g] w (w.setCell ⟨g, 6, none⟩ (.int .u64 (((x.idx + 1) % 18446744073709551616 : Nat) : Int))) := (Frm.refl [g] w).st g 6 (.int .u64 (((x.idx + 1) % 18446744073709551616 : Nat) : Int)) (.inl (by simp))
      replace FF := FF.tr Fn
      replace RL := RL.fg RB Fn
      replace T := T.frm Fn (by simpa using hgne)
      replace Z := Z.frm Fn RB.no2
      replace RB := RBn
      clear RBn Fn
      generalize w.setCell ⟨g, 6, none⟩ (.int .u64 (((x.idx + 1) % 18446744073709551616 : Nat) : Int)) = w8 at *
      refine e_nil (hR.out _ _ ?_)
      clear hR R
      refine hK8 _ _ ?_
      clear hK8 K8
      refine wp_seq_k (fun K9 hK9 => ?_)
      refine wp_seq_k (fun K10 hK10 => ?_)
      refine e_region (fun R hR => ?_)
      refine e_op H rfl rfl (by decide) (x_fieldAddr H rfl rfl (fa95_3 _ _)) ?_
      clear H a; intro a H
      refine e_op H rfl rfl (by decide) (x_load H rfl rfl (l_cell Try.isAgg89 (T.at_ (rc_what hx.words)))) ?_
      clear H a; intro a H
      refine e_op H rfl rfl (by decide) (x_binI H rfl rfl rfl (b_eql rfl)) ?_
      clear H a; intro a H
      refine e_nil (hR.out _ _ ?_)
      clear hR R
      refine hK10 _ _ ?_
      clear hK10 K10
      refine Code.wp_mono (Q := fun e a w => e = Exit.normal ∧ Has a 152 [(0, .pointer (some ⟨g, 0, none⟩)), (3, .pointer (some ⟨g1, 0, none⟩))] ∧ Blk w g 191 (rgCells r.cap ((r.used : Nat) : Int) (.slice va ps.length vc) true (r.add x).era (r.add x).first (nextOf x)) ∧ Rl w B (.slice va ps.length vc) ps ∧ Blk w g1 95 (x.cells (.slice ua un uc)) ∧ Zw w 0 (.slice ua un uc) x.ev.args ∧ Frm [g] w0 w) (fun e a w hM => ?_) ?_
      · skip
        clear H RB RL T Z FF
        obtain ⟨rfl, H, RB, RL, T, Z, FF⟩ := hM
        refine hK9 _ _ ?_
        clear hK9 K9
        refine wp_seq_k (fun K11 hK11 => ?_)
        have hg1n : g1 ∉ (g :: (Value.slice va ps.length vc).ownBlock.toList) := by
          intro hx1
          rcases List.mem_cons.1 hx1 with h | h
          · exact hgne h
          · have := (R0.lst.row.blk g1 (by simpa using h)).2.1; omega
        obtain ⟨wd, hwd⟩ : ∃ wx, wx = w.drew := ⟨_, rfl⟩
        have Ewd : Ext w wd := by rw [hwd]; exact (Ext.refl _).dr
        replace RB := RB.ext Ewd
        replace RL := RL.ext Ewd
        replace T := T.ext Ewd
        replace Z := Z.ext Ewd
        replace FF : Frm (g :: (Value.slice va ps.length vc).ownBlock.toList) w0 wd := (FF.tr Ewd.frm).mono (fun b hb => by simp only [List.mem_singleton] at hb; subst hb; exact List.mem_cons_self ..)
        have T0 := T
        have FSq := Frm.refl (g :: (Value.slice va ps.length vc).ownBlock.toList) wd
        refine Code.wp_mono (Q := fun e a w => e = Exit.normal ∧ ∃ gr og cr ux, Has a 152 [(0, .pointer (some ⟨g, 0, none⟩)), (3, .pointer (some ⟨g1, 0, none⟩))] ∧ Blk w g 191 (rgCells r.cap ((r.used : Nat) : Int) (.slice (some ⟨gr, og, none⟩) (ps.length + 1) cr) true (r.add x).era (r.add x).first (nextOf x)) ∧ Rl w B (.slice (some ⟨gr, og, none⟩) (ps.length + 1) cr) (ps ++ [(x, ux)]) ∧ Blk w g1 95 (x.cells (.slice ua un uc)) ∧ Zw w 0 (.slice ua un uc) x.ev.args ∧ Frm (g :: (Value.slice va ps.length vc).ownBlock.toList) w0 w ∧ ((Value.slice va ps.length vc).ownBlock = some gr ∨ w0.heap.size ≤ gr)) (fun e a w hM => ?_) ?_
        · skip
          clear H RB RL T Z FF T0 FSq hwd Ewd wd
          obtain ⟨rfl, gr, og, cr, ux, H, RB, RL, T, Z, FF, hgr⟩ := hM
          refine hK11 _ _ ?_
          clear hK11 K11
          refine wp_seq_k (fun K12 hK12 => ?_)
          obtain ⟨wd, hwd⟩ : ∃ wx, wx = w.drew := ⟨_, rfl⟩
          have Ewd : Ext w wd := by rw [hwd]; exact (Ext.refl _).dr
          replace RB := RB.ext Ewd
          replace RL := RL.ext Ewd
          replace T := T.ext Ewd
          replace Z := Z.ext Ewd
          replace FF := FF.tr Ewd.frm
          have T0 := T
          have FSq := Frm.refl [g] wd
          refine Code.wp_mono (Q := fun e a w => e = Exit.normal ∧ Has a 152 [(0, .pointer (some ⟨g, 0, none⟩))] ∧ Blk w g 191 (rgCells r.cap ((r.used + x.size : Nat) : Int) (.slice (some ⟨gr, og, none⟩) (ps.length + 1) cr) true (r.add x).era (r.add x).first (nextOf x)) ∧ Rl w B (.slice (some ⟨gr, og, none⟩) (ps.length + 1) cr) (ps ++ [(x, ux)]) ∧ Frm (g :: (Value.slice va ps.length vc).ownBlock.toList) w0 w) (fun e a w hM => ?_) ?_
          · skip
            clear H RB RL T Z FF T0 FSq hwd Ewd wd
            obtain ⟨rfl, H, RB, RL, FF⟩ := hM
            refine hK12 _ _ ?_
            clear hK12 K12
            refine wp_seq_k (fun K13 hK13 => ?_)
            refine e_region (fun R hR => ?_)
            have hpl : r.list.length = ps.length := by rw [← R0.eq, List.length_map]
            have hw16 : ∀ y ∈ r.list ++ [x], y.words.length = 16 := by
              intro y hy
              rcases List.mem_append.1 hy with h | h
              · rw [← R0.eq] at h
                obtain ⟨q, hq, rfl⟩ := List.mem_map.1 h
                exact R0.lst.w16 q hq
              · simp only [List.mem_singleton] at h; subst h; exact hx.words
            have dropB : ∀ i, sizes ((r.list ++ [x]).drop i) ≤ (ps.length + 1) * 400 := fun i => by
              refine Nat.le_trans (sizes_le _ (fun y hy => hw16 y (List.mem_of_mem_drop hy))) (Nat.mul_le_mul_right _ ?_)
              rw [List.length_drop, List.length_append, hpl]
              simp
            have dropL : ∀ i p, (ps ++ [(x, ux)])[i]? = some p → (r.list ++ [x]).drop i = p.1 :: (r.list ++ [x]).drop (i + 1) := fun i p hp => by
              have h : (r.list ++ [x])[i]? = some p.1 := by
                have : r.list ++ [x] = (ps ++ [(x, ux)]).map (·.1) := by rw [List.map_append, R0.eq]; rfl
                rw [this, List.getElem?_map, hp]; rfl
              obtain ⟨hl, e⟩ := List.getElem?_eq_some_iff.1 h
              rw [List.drop_eq_getElem_cons hl, e]
            refine e_op H rfl rfl (by decide) (x_assign H rfl rfl) ?_
            clear H a; intro a H
            refine e_nil (hR.out _ _ ?_)
            clear hR R
            refine hK13 _ _ ?_
            clear hK13 K13
            refine wp_seq_k (fun K14 hK14 => ?_)
            refine wp_block ?_
            refine wp_loop_ghost (fun n a w => ∃ i ui, i ≤ ps.length + 1 ∧ n = ps.length + 1 - i ∧ ui = sizes ((r.list ++ [x]).drop i) ∧ i + (dropR r.cap ui ((r.list ++ [x]).drop i)).1 = (dropR r.cap (r.used + x.size) (r.list ++ [x])).1 ∧ (dropR r.cap ui ((r.list ++ [x]).drop i)).2 = (dropR r.cap (r.used + x.size) (r.list ++ [x])).2 ∧ Has a 152 [(0, .pointer (some ⟨g, 0, none⟩)), (6, .int .i64 (i : Int))] ∧ Blk w g 191 (rgCells r.cap ((ui : Nat) : Int) (.slice (some ⟨gr, og, none⟩) (ps.length + 1) cr) true (r.add x).era (r.add x).first (nextOf x)) ∧ Rl w B (.slice (some ⟨gr, og, none⟩) (ps.length + 1) cr) (ps ++ [(x, ux)]) ∧ Frm (g :: (Value.slice va ps.length vc).ownBlock.toList) w0 w) (ps.length + 1) ?_ ?_
            · skip
              refine ⟨0, r.used + x.size, by omega, rfl, ?_, by simp, by simp, H.sub ⟨rfl, rfl, trivial⟩, RB, RL, FF⟩
              rw [List.drop_zero, sizes_app, R0.sum]
            · skip
              clear H RB RL FF
              intro n a w hI
              obtain ⟨i, ui, hi, rfl, hui, h1, h2, H, RB, RL, FF⟩ := hI
              have hub : ui ≤ (ps.length + 1) * 400 := by rw [hui]; exact dropB i
              skip
              refine wp_seq_k (fun K15 hK15 => ?_)
              refine wp_seq_k (fun K16 hK16 => ?_)
              obtain ⟨wd, hwd⟩ : ∃ wx, wx = w.drew := ⟨_, rfl⟩
              have Ewd : Ext w wd := by rw [hwd]; exact (Ext.refl _).dr
              replace RB := RB.ext Ewd
              replace RL := RL.ext Ewd
              replace FF := FF.tr Ewd.frm
              refine Code.wp_mono (Q := fun e a w => e = Exit.normal ∧ ∃ c, Has a 152 [(0, .pointer (some ⟨g, 0, none⟩)), (6, .int .i64 (i : Int)), (124, .bool c)] ∧ w = wd ∧ (c = true → i < ps.length + 1 ∧ ∃ p, (ps ++ [(x, ux)])[i]? = some p ∧ (r.cap < (ui : Int) ∨ p.1.what = 2)) ∧ (c = false → dropR r.cap ui ((r.list ++ [x]).drop i) = (0, ui))) (fun e a w hM => ?_) ?_
              · skip
                clear H
                obtain ⟨rfl, c, H, hww, hct, hcf⟩ := hM
                rw [hww]
                clear hww
                refine hK16 _ _ ?_
                clear hK16 K16
                refine c_split H rfl (fun ht => ?_) (fun ht => ?_)
                · skip
                  obtain ⟨hlt, p, hp, hor⟩ := hct ht
                  have hdi : (r.list ++ [x]).drop i = p.1 :: (r.list ++ [x]).drop (i + 1) := dropL i p hp
                  have hsz : ui = p.1.size + sizes ((r.list ++ [x]).drop (i + 1)) := by rw [hui, hdi]; unfold sizes; simp
                  have hus : ui - p.1.size = sizes ((r.list ++ [x]).drop (i + 1)) := by omega
                  refine wp_skip ?_
                  refine hK15 _ _ ?_
                  clear hK15 K15
                  refine wp_block ?_
                  refine wp_seq_k (fun K17 hK17 => ?_)
                  obtain ⟨w2, hw2⟩ : ∃ wx, wx = wd.drew := ⟨_, rfl⟩
                  have Ew2 : Ext wd w2 := by rw [hw2]; exact (Ext.refl _).dr
                  replace RB := RB.ext Ew2
                  replace RL := RL.ext Ew2
                  replace FF := FF.tr Ew2.frm
                  have RL0 := RL
                  have RB0 := RB
                  have FSq : Frm [g] w2 w2 ∧ w2.cell? ⟨g, 2, none⟩ = some (.slice (some ⟨gr, og, none⟩) (ps.length + 1) cr) := ⟨Frm.refl [g] w2, RB.at_ (i := 2) rfl⟩
                  have hokp := (RL.one p (List.mem_of_getElem? hp)).1
                  refine g_start (fun w' => Frm [g] w2 w' ∧ w'.cell? ⟨g, 2, none⟩ = some (.slice (some ⟨gr, og, none⟩) (ps.length + 1) cr)) (by kernel_rfl) (fun R hR => ?_)
                  rw [← hw2]
                  refine g_take 0 H rfl (wanted_none rfl) rfl (by decide) (by kernel_rfl) (by kernel_rfl) (by kernel_rfl) FSq (fun w' hSw => (x_move H rfl rfl)) ?_
                  clear H a; intro a H
                  refine g_take 1 H rfl (wanted_none rfl) rfl (by decide) (by kernel_rfl) (by kernel_rfl) (by kernel_rfl) FSq (fun w' hSw => (x_nilCheck H rfl rfl)) ?_
                  clear H a; intro a H
                  refine g_take 2 H rfl (wanted_none rfl) rfl (by decide) (by kernel_rfl) (by kernel_rfl) (by kernel_rfl) FSq (fun w' hSw => (x_fieldAddr H rfl rfl (fa191_1 _ _))) ?_
                  clear H a; intro a H
                  refine g_take 4 H rfl (wanted_none rfl) rfl (by decide) (by kernel_rfl) (by kernel_rfl) (by kernel_rfl) FSq (fun w' hSw => (x_move H rfl rfl)) ?_
                  clear H a; intro a H
                  refine g_take 5 H rfl (wanted_none rfl) rfl (by decide) (by kernel_rfl) (by kernel_rfl) (by kernel_rfl) FSq (fun w' hSw => (x_nilCheck H rfl rfl)) ?_
                  clear H a; intro a H
                  refine g_take 6 H rfl (wanted_none rfl) rfl (by decide) (by kernel_rfl) (by kernel_rfl) (by kernel_rfl) FSq (fun w' hSw => (x_fieldAddr H rfl rfl (fa191_2 _ _))) ?_
                  clear H a; intro a H
                  refine g_take 7 H rfl (wanted_none rfl) rfl (by decide) (by kernel_rfl) (by kernel_rfl) (by kernel_rfl) FSq (fun w' hSw => (x_load H rfl rfl (l_cell Try.isAgg84 (hSw.2)))) ?_
                  clear H a; intro a H
                  refine g_take 8 H rfl (wanted_none rfl) rfl (by decide) (by kernel_rfl) (by kernel_rfl) (by kernel_rfl) FSq (fun w' hSw => (x_move H rfl rfl)) ?_
                  clear H a; intro a H
                  refine g_take 9 H rfl (wanted_none rfl) rfl (by decide) (by kernel_rfl) (by kernel_rfl) (by kernel_rfl) FSq (fun w' hSw => (x_indexAddr H rfl rfl rfl (i_slN (m := i) under84 size95 rfl hlt))) ?_
                  clear H a; intro a H
                  refine g_take 10 H rfl (wanted_none rfl) rfl (by decide) (by kernel_rfl) (by kernel_rfl) (by kernel_rfl) FSq (fun w' hSw => (x_load H rfl rfl (ld_elem (RL0.fg RB0 hSw.1) i p hp))) ?_
                  clear H a; intro a H
                  refine g_twoc 3 11 H (by kernel_rfl) rfl (wanted_none rfl) rfl (by decide) (x_load H rfl rfl (l_cell Try.isAgg3 (RB.at_ (i := 1) rfl))) (FSq) rfl (wanted_none rfl) rfl (by decide) rfl rfl (Try.call116 _) (size_any p.1 p.2 _ hokp (RL.one p (List.mem_of_getElem? hp)).2.zl) ?_ ?_
                  · skip
                    clear H a; intro a H
                    refine g_call 11 H rfl (by kernel_rfl) (wanted_none rfl) rfl (by decide) rfl rfl (Try.call116 _) (size_any p.1 p.2 _ hokp (RL.one p (List.mem_of_getElem? hp)).2.zl) ?_
                    clear H a
                    rintro e we ⟨rfl, Ee⟩
                    replace RB := RB.ext Ee
                    replace RL := RL.ext Ee
                    replace FF := FF.tr Ee.frm
                    replace FSq := And.intro (FSq.1.tr Ee.frm) (RB.at_ (i := 2) (v := (.slice (some ⟨gr, og, none⟩) (ps.length + 1) cr)) rfl)
                    refine ⟨_, rfl, FSq, fun a H => ?_⟩
                    refine g_take 12 H rfl (wanted_none rfl) rfl (by decide) (by kernel_rfl) (by kernel_rfl) (by kernel_rfl) FSq (fun w' hSw => (x_binI H rfl rfl rfl (b_sub (z := ((ui - p.1.size : Nat) : Int)) (by rw [IntKind.wrap_i64]; omega)))) ?_
                    clear H a; intro a H
                    refine g_take 13 H rfl (wanted_none rfl) rfl (by decide) (by kernel_rfl) (by kernel_rfl) (by kernel_rfl) FSq (fun w' hSw => (x_nilCheck H rfl rfl)) ?_
                    clear H a; intro a H
                    refine g_take 14 H rfl (wanted_none rfl) rfl (by decide) (by kernel_rfl) (by kernel_rfl) (by kernel_rfl) FSq (fun w' hSw => (x_fieldAddr H rfl rfl (fa191_1 _ _))) ?_
                    clear H a; intro a H
                    refine g_st 15 H rfl (by kernel_rfl) (wanted_none rfl) rfl (x_store H rfl rfl rfl (st_cell rfl rfl Try.sizeOf3 (RB.frozen _) (RB.isSome 1 (by simp [rgCells])))) (⟨FSq.1.st g 1 _ (.inl (by simp)), (RB.set_ 1 _).at_ (i := 2) rfl⟩) ?_
                    clear FSq
                    have RBn : Blk (we.setCell ⟨g, 1, none⟩ (.int .i64 ((ui - p.1.size : Nat) : Int))) g 191 (rgCells r.cap ((ui - p.1.size : Nat) : Int) (.slice (some ⟨gr, og, none⟩) (ps.length + 1) cr) true (r.add x).era (r.add x).first (nextOf x)) := RB.set_ 1 (.int .i64 ((ui - p.1.size : Nat) : Int))
                    have Fn : Frm [g] we (we.setCell ⟨g, 1, none⟩ (.int .i64 ((ui - p.1.size : Nat) : Int))) := (Frm.refl [g] we).st g 1 (.int .i64 ((ui - p.1.size : Nat) : Int)) (.inl (by simp))
                    replace FF := FF.tr (Fn.mono (fun b hb => by simp only [List.mem_singleton] at hb; subst hb; exact List.mem_cons_self ..))
                    replace RL := RL.fg RB Fn
                    replace RB := RBn
                    clear RBn Fn
                    generalize we.setCell ⟨g, 1, none⟩ (.int .i64 ((ui - p.1.size : Nat) : Int)) = wf at *
                    refine g_done (by kernel_rfl) (hR.out _ _ ?_)
                    clear hR R
                    refine hK17 _ _ ?_
                    clear hK17 K17
                    refine e_region (fun R hR => ?_)
                    refine e_op H rfl rfl (by decide) (x_move H rfl rfl) ?_
                    clear H a; intro a H
                    refine e_op H rfl rfl (by decide) (x_binI H rfl rfl rfl (b_add (z := ((i + 1 : Nat) : Int)) (by rw [IntKind.wrap_i64]; omega))) ?_
                    clear H a; intro a H
                    refine e_op H rfl rfl (by decide) (x_assign H rfl rfl) ?_
                    clear H a; intro a H
                    refine e_nil (hR.out _ _ ?_)
                    clear hR R
                    refine ⟨ps.length + 1 - (i + 1), by omega, i + 1, ui - p.1.size, by omega, rfl, hus, ?_, ?_, H.sub ⟨rfl, rfl, trivial⟩, RB, RL, FF⟩
                    · rw [← h1]; conv => rhs; rw [hdi, dropR, if_pos hor]
                      simp only; omega
                    · rw [← h2]; conv => rhs; rw [hdi, dropR, if_pos hor]
                  · skip
                    clear H a
                    rintro e we ⟨rfl, Ee⟩
                    replace RB := RB.ext Ee
                    replace RL := RL.ext Ee
                    replace FF := FF.tr Ee.frm
                    replace FSq := And.intro (FSq.1.tr Ee.frm) (RB.at_ (i := 2) (v := (.slice (some ⟨gr, og, none⟩) (ps.length + 1) cr)) rfl)
                    refine ⟨_, rfl, FSq, fun a H => ?_⟩
                    refine g_op 3 H rfl (by kernel_rfl) (wanted_none rfl) rfl (by decide) (x_load H rfl rfl (l_cell Try.isAgg3 (RB.at_ (i := 1) rfl))) (FSq) ?_
                    clear H a; intro a H
                    refine g_take 12 H rfl (wanted_none rfl) rfl (by decide) (by kernel_rfl) (by kernel_rfl) (by kernel_rfl) FSq (fun w' hSw => (x_binI H rfl rfl rfl (b_sub (z := ((ui - p.1.size : Nat) : Int)) (by rw [IntKind.wrap_i64]; omega)))) ?_
                    clear H a; intro a H
                    refine g_take 13 H rfl (wanted_none rfl) rfl (by decide) (by kernel_rfl) (by kernel_rfl) (by kernel_rfl) FSq (fun w' hSw => (x_nilCheck H rfl rfl)) ?_
                    clear H a; intro a H
                    refine g_take 14 H rfl (wanted_none rfl) rfl (by decide) (by kernel_rfl) (by kernel_rfl) (by kernel_rfl) FSq (fun w' hSw => (x_fieldAddr H rfl rfl (fa191_1 _ _))) ?_
                    clear H a; intro a H
                    refine g_st 15 H rfl (by kernel_rfl) (wanted_none rfl) rfl (x_store H rfl rfl rfl (st_cell rfl rfl Try.sizeOf3 (RB.frozen _) (RB.isSome 1 (by simp [rgCells])))) (⟨FSq.1.st g 1 _ (.inl (by simp)), (RB.set_ 1 _).at_ (i := 2) rfl⟩) ?_
                    clear FSq
                    have RBn : Blk (we.setCell ⟨g, 1, none⟩ (.int .i64 ((ui - p.1.size : Nat) : Int))) g 191 (rgCells r.cap ((ui - p.1.size : Nat) : Int) (.slice (some ⟨gr, og, none⟩) (ps.length + 1) cr) true (r.add x).era (r.add x).first (nextOf x)) := RB.set_ 1 (.int .i64 ((ui - p.1.size : Nat) : Int))
                    have Fn : Frm [g] we (we.setCell ⟨g, 1, none⟩ (.int .i64 ((ui - p.1.size : Nat) : Int))) := (Frm.refl [g] we).st g 1 (.int .i64 ((ui - p.1.size : Nat) : Int)) (.inl (by simp))
                    replace FF := FF.tr (Fn.mono (fun b hb => by simp only [List.mem_singleton] at hb; subst hb; exact List.mem_cons_self ..))
                    replace RL := RL.fg RB Fn
                    replace RB := RBn
                    clear RBn Fn
                    generalize we.setCell ⟨g, 1, none⟩ (.int .i64 ((ui - p.1.size : Nat) : Int)) = wf at *
                    refine g_done (by kernel_rfl) (hR.out _ _ ?_)
                    clear hR R
                    refine hK17 _ _ ?_
                    clear hK17 K17
                    refine e_region (fun R hR => ?_)
                    refine e_op H rfl rfl (by decide) (x_move H rfl rfl) ?_
                    clear H a; intro a H
                    refine e_op H rfl rfl (by decide) (x_binI H rfl rfl rfl (b_add (z := ((i + 1 : Nat) : Int)) (by rw [IntKind.wrap_i64]; omega))) ?_
                    clear H a; intro a H
                    refine e_op H rfl rfl (by decide) (x_assign H rfl rfl) ?_
                    clear H a; intro a H
                    refine e_nil (hR.out _ _ ?_)
                    clear hR R
                    refine ⟨ps.length + 1 - (i + 1), by omega, i + 1, ui - p.1.size, by omega, rfl, hus, ?_, ?_, H.sub ⟨rfl, rfl, trivial⟩, RB, RL, FF⟩
                    · rw [← h1]; conv => rhs; rw [hdi, dropR, if_pos hor]
                      simp only; omega
                    · rw [← h2]; conv => rhs; rw [hdi, dropR, if_pos hor]
                · skip
                  have hdd := hcf ht
                  have hd1 : (dropR r.cap (r.used + x.size) (r.list ++ [x])).1 = i := by rw [← h1, hdd]; rfl
                  have hd2 : (dropR r.cap (r.used + x.size) (r.list ++ [x])).2 = ui := by rw [← h2, hdd]
                  refine wp_exit ?_
                  refine t_exit ?_
                  refine t_exit ?_
                  refine b_hit ?_
                  clear hK15 K15
                  refine hK14 _ _ ?_
                  clear hK14 K14
                  refine wp_seq_k (fun K18 hK18 => ?_)
                  refine e_region (fun R hR => ?_)
                  refine e_op H rfl rfl (by decide) (x_move H rfl rfl) ?_
                  clear H a; intro a H
                  refine e_op H rfl rfl (by decide) (x_move H rfl rfl) ?_
                  clear H a; intro a H
                  refine e_op H rfl rfl (by decide) (x_nilCheck H rfl rfl) ?_
                  clear H a; intro a H
                  refine e_op H rfl rfl (by decide) (x_fieldAddr H rfl rfl (fa191_2 _ _)) ?_
                  clear H a; intro a H
                  refine e_op H rfl rfl (by decide) (x_load H rfl rfl (l_cell Try.isAgg84 (RB.at_ (i := 2) rfl))) ?_
                  clear H a; intro a H
                  refine e_op H rfl rfl (by decide) (x_move H rfl rfl) ?_
                  clear H a; intro a H
                  refine e_op H rfl rfl (by decide) (x_slice H rfl rfl rfl rfl (sl_loN (lo := i) under84 size95 rfl hi)) ?_
                  clear H a; intro a H
                  refine e_op H rfl rfl (by decide) (x_nilCheck H rfl rfl) ?_
                  clear H a; intro a H
                  refine e_op H rfl rfl (by decide) (x_fieldAddr H rfl rfl (fa191_2 _ _)) ?_
                  clear H a; intro a H
                  have RL2 := RL.cut (by simp) i hi
                  obtain ⟨vf, hvf⟩ : ∃ v, v = (if cr = i then some (⟨gr, og, none⟩ : Addr) else Option.map (fun (y : Addr) => y.add (i * 29)) (some (⟨gr, og, none⟩ : Addr))) := ⟨_, rfl⟩
                  rw [← hvf] at H RL2
                  refine e_st H rfl rfl (x_store H rfl rfl rfl (st_cell rfl rfl Try.sizeOf84 (RB.frozen _) (RB.isSome 2 (by simp [rgCells])))) ?_
                  have RBn : Blk (wd.setCell ⟨g, 2, none⟩ (.slice vf (ps.length + 1 - i) (cr - i))) g 191 (rgCells r.cap ((ui : Nat) : Int) (.slice vf (ps.length + 1 - i) (cr - i)) true (r.add x).era (r.add x).first (nextOf x)) := RB.set_ 2 (.slice vf (ps.length + 1 - i) (cr - i))
                  have Fn : Frm [g] wd (wd.setCell ⟨g, 2, none⟩ (.slice vf (ps.length + 1 - i) (cr - i))) := (Frm.refl [g] wd).st g 2 _ (.inl (by simp))
                  replace FF := FF.tr (Fn.mono (fun b hb => by simp only [List.mem_singleton] at hb; subst hb; exact List.mem_cons_self ..))
                  replace RL2 := RL2.fg RB Fn
                  replace RB := RBn
                  refine e_nil (hR.out _ _ ?_)
                  clear hR R
                  refine hK18 _ _ ?_
                  clear hK18 K18
                  refine wp_seq_k (fun K19 hK19 => ?_)
                  refine e_region (fun R hR => ?_)
                  refine e_op H rfl rfl (by decide) (x_move H rfl rfl) ?_
                  clear H a; intro a H
                  refine e_op H rfl rfl (by decide) (x_assign H rfl rfl) ?_
                  clear H a; intro a H
                  refine e_op H rfl rfl (by decide) (x_assign H rfl rfl) ?_
                  clear H a; intro a H
                  refine e_nil (hR.out _ _ ?_)
                  clear hR R
                  refine hK19 _ _ ?_
                  clear hK19 K19
                  refine wp_ret ?_
                  have hcell : (Value.slice vf (ps.length + 1 - i) (cr - i)).ownBlock = some gr := by
                    rw [hvf]
                    split
                    · rfl
                    · simp [Value.ownBlock, Addr.add_lit]
                  have hadd : (r.put x) = (r.add x, i, 0) := by unfold Rg.put; rw [if_pos hcode0, hd1]
                  have hused : (r.add x).used = ui := hd2
                  have hlist : (r.add x).list = (r.list ++ [x]).drop i := by show (r.list ++ [x]).drop _ = _; rw [hd1]
                  refine ret2 H rfl rfl rfl ⟨.slice vf (ps.length + 1 - i) (cr - i), (ps ++ [(x, ux)]).drop i, ?_, ?_, FF, ?_⟩
                  · rw [hadd]; rfl
                  · rw [hadd]
                    refine ⟨?_, RL2, ?_, ?_, R0.low, addN1 R0 hx, addN2 x, addE R0 hx, R0.c1⟩
                    · rw [hused]; exact RB
                    · rw [hlist, List.map_drop, List.map_append, R0.eq]; rfl
                    · rw [hused, hlist]; exact hui
                  · rw [hcell]
                    rcases hgr with h3 | h3
                    · exact .inr (.inl h3.symm)
                    · exact .inr (.inr ⟨gr, rfl, h3⟩)
              · skip
                rcases (show i = ps.length + 1 ∨ (i < ps.length + 1 ∧ r.cap < (ui : Int)) ∨ (i < ps.length + 1 ∧ ¬ r.cap < (ui : Int) ∧ ((ps ++ [(x, ux)])[i]?.map fun p => p.1.what) = some 2) ∨ (i < ps.length + 1 ∧ ¬ r.cap < (ui : Int) ∧ ((ps ++ [(x, ux)])[i]?.map fun p => p.1.what) ≠ some 2) by
                  by_cases q1 : i = ps.length + 1
                  · exact .inl q1
                  by_cases q2 : r.cap < (ui : Int)
                  · exact .inr (.inl ⟨by omega, q2⟩)
                  by_cases q3 : ((ps ++ [(x, ux)])[i]?.map fun p => p.1.what) = some 2
                  · exact .inr (.inr (.inl ⟨by omega, q2, q3⟩))
                  · exact .inr (.inr (.inr ⟨by omega, q2, q3⟩))) with hcase | ⟨hlt, hcu⟩ | ⟨hlt, hcu, hcw⟩ | ⟨hlt, hcu, hcw⟩
                · skip
                  skip
                  refine e_quiet (by kernel_rfl) (by kernel_rfl) (fun R hR => ?_)
                  rw [← hwd]
                  refine s_op H rfl rfl (by decide) (x_move H rfl rfl) ?_
                  clear H a; intro a H
                  refine s_op H rfl rfl (by decide) (x_move H rfl rfl) ?_
                  clear H a; intro a H
                  refine s_op H rfl rfl (by decide) (x_nilCheck H rfl rfl) ?_
                  clear H a; intro a H
                  refine s_op H rfl rfl (by decide) (x_fieldAddr H rfl rfl (fa191_2 _ _)) ?_
                  clear H a; intro a H
                  refine s_op H rfl rfl (by decide) (x_load H rfl rfl (l_cell Try.isAgg84 (RB.at_ (i := 2) rfl))) ?_
                  clear H a; intro a H
                  refine s_op H rfl rfl (by decide) (x_builtin H rfl rfl (fun cs => len_sl under84)) ?_
                  clear H a; intro a H
                  refine s_op H rfl rfl (by decide) (x_binI H rfl rfl rfl (b_lss (b := false) (dec_f (by omega)))) ?_
                  clear H a; intro a H
                  refine s_op H rfl rfl (by decide) (x_move H rfl rfl) ?_
                  clear H a; intro a H
                  refine s_skip H (wanted_false H rfl rfl rfl rfl) rfl (by decide) ?_
                  clear H a; intro a H
                  refine s_skip H (wanted_false H rfl rfl rfl rfl) rfl (by decide) ?_
                  clear H a; intro a H
                  refine s_skip H (wanted_false H rfl rfl rfl rfl) rfl (by decide) ?_
                  clear H a; intro a H
                  refine s_skip H (wanted_false H rfl rfl rfl rfl) rfl (by decide) ?_
                  clear H a; intro a H
                  refine s_skip H (wanted_false H rfl rfl rfl rfl) rfl (by decide) ?_
                  clear H a; intro a H
                  refine s_skip H (wanted_false H rfl rfl rfl rfl) rfl (by decide) ?_
                  clear H a; intro a H
                  refine s_skip H (wanted_false H rfl rfl rfl rfl) rfl (by decide) ?_
                  clear H a; intro a H
                  refine s_skip H (wanted_false H rfl rfl rfl rfl) rfl (by decide) ?_
                  clear H a; intro a H
                  refine s_skip H (wanted_false H rfl rfl rfl rfl) rfl (by decide) ?_
                  clear H a; intro a H
                  refine s_skip H (wanted_false H rfl rfl rfl rfl) rfl (by decide) ?_
                  clear H a; intro a H
                  refine s_skip H (wanted_undef H rfl rfl rfl rfl) rfl (by decide) ?_
                  clear H a; intro a H
                  refine s_skip H (wanted_undef H rfl rfl rfl rfl) rfl (by decide) ?_
                  clear H a; intro a H
                  refine s_skip H (wanted_undef H rfl rfl rfl rfl) rfl (by decide) ?_
                  clear H a; intro a H
                  refine s_skip H (wanted_undef H rfl rfl rfl rfl) rfl (by decide) ?_
                  clear H a; intro a H
                  refine s_skip H (wanted_undef H rfl rfl rfl rfl) rfl (by decide) ?_
                  clear H a; intro a H
                  refine s_skip H (wanted_undef H rfl rfl rfl rfl) rfl (by decide) ?_
                  clear H a; intro a H
                  refine s_skip H (wanted_undef H rfl rfl rfl rfl) rfl (by decide) ?_
                  clear H a; intro a H
                  refine s_skip H (wanted_undef H rfl rfl rfl rfl) rfl (by decide) ?_
                  clear H a; intro a H
                  refine s_skip H (wanted_undef H rfl rfl rfl rfl) rfl (by decide) ?_
                  clear H a; intro a H
                  refine s_skip H (wanted_false H rfl rfl rfl rfl) rfl (by decide) ?_
                  clear H a; intro a H
                  refine s_op H rfl rfl (by decide) (x_pickF H rfl rfl rfl) ?_
                  clear H a; intro a H
                  refine wpStill_nil (hR.out _ _ ?_)
                  clear hR R
                  exact ⟨rfl, false, H.sub ⟨rfl, rfl, rfl, trivial⟩, rfl, (fun h => by cases h), fun _ => by rw [List.drop_of_length_le (by simp [hpl]; omega)]; rfl⟩
                · skip
                  obtain ⟨p, hp⟩ : ∃ p, (ps ++ [(x, ux)])[i]? = some p := ⟨_, List.getElem?_eq_getElem (by simp; omega)⟩
                  refine e_quiet (by kernel_rfl) (by kernel_rfl) (fun R hR => ?_)
                  rw [← hwd]
                  refine s_op H rfl rfl (by decide) (x_move H rfl rfl) ?_
                  clear H a; intro a H
                  refine s_op H rfl rfl (by decide) (x_move H rfl rfl) ?_
                  clear H a; intro a H
                  refine s_op H rfl rfl (by decide) (x_nilCheck H rfl rfl) ?_
                  clear H a; intro a H
                  refine s_op H rfl rfl (by decide) (x_fieldAddr H rfl rfl (fa191_2 _ _)) ?_
                  clear H a; intro a H
                  refine s_op H rfl rfl (by decide) (x_load H rfl rfl (l_cell Try.isAgg84 (RB.at_ (i := 2) rfl))) ?_
                  clear H a; intro a H
                  refine s_op H rfl rfl (by decide) (x_builtin H rfl rfl (fun cs => len_sl under84)) ?_
                  clear H a; intro a H
                  refine s_op H rfl rfl (by decide) (x_binI H rfl rfl rfl (b_lss (b := true) (dec_t (by omega)))) ?_
                  clear H a; intro a H
                  refine s_op H rfl rfl (by decide) (x_move H rfl rfl) ?_
                  clear H a; intro a H
                  refine s_opg H (wanted_true H rfl rfl rfl rfl) rfl (by decide) (x_move H rfl rfl) ?_
                  clear H a; intro a H
                  refine s_opg H (wanted_true H rfl rfl rfl rfl) rfl (by decide) (x_nilCheck H rfl rfl) ?_
                  clear H a; intro a H
                  refine s_opg H (wanted_true H rfl rfl rfl rfl) rfl (by decide) (x_fieldAddr H rfl rfl (fa191_1 _ _)) ?_
                  clear H a; intro a H
                  refine s_opg H (wanted_true H rfl rfl rfl rfl) rfl (by decide) (x_load H rfl rfl (l_cell Try.isAgg3 (RB.at_ (i := 1) rfl))) ?_
                  clear H a; intro a H
                  refine s_opg H (wanted_true H rfl rfl rfl rfl) rfl (by decide) (x_move H rfl rfl) ?_
                  clear H a; intro a H
                  refine s_opg H (wanted_true H rfl rfl rfl rfl) rfl (by decide) (x_nilCheck H rfl rfl) ?_
                  clear H a; intro a H
                  refine s_opg H (wanted_true H rfl rfl rfl rfl) rfl (by decide) (x_fieldAddr H rfl rfl (fa191_0 _ _)) ?_
                  clear H a; intro a H
                  refine s_opg H (wanted_true H rfl rfl rfl rfl) rfl (by decide) (x_load H rfl rfl (l_cell Try.isAgg3 (RB.at_ (i := 0) rfl))) ?_
                  clear H a; intro a H
                  refine s_opg H (wanted_true H rfl rfl rfl rfl) rfl (by decide) (x_binI H rfl rfl rfl (b_gtr (b := true) (dec_t hcu))) ?_
                  clear H a; intro a H
                  refine s_opg H (wanted_true H rfl rfl rfl rfl) rfl (by decide) (x_move H rfl rfl) ?_
                  clear H a; intro a H
                  refine s_skip H (wanted_false H rfl rfl rfl rfl) rfl (by decide) ?_
                  clear H a; intro a H
                  refine s_skip H (wanted_false H rfl rfl rfl rfl) rfl (by decide) ?_
                  clear H a; intro a H
                  refine s_skip H (wanted_false H rfl rfl rfl rfl) rfl (by decide) ?_
                  clear H a; intro a H
                  refine s_skip H (wanted_false H rfl rfl rfl rfl) rfl (by decide) ?_
                  clear H a; intro a H
                  refine s_skip H (wanted_false H rfl rfl rfl rfl) rfl (by decide) ?_
                  clear H a; intro a H
                  refine s_skip H (wanted_false H rfl rfl rfl rfl) rfl (by decide) ?_
                  clear H a; intro a H
                  refine s_skip H (wanted_false H rfl rfl rfl rfl) rfl (by decide) ?_
                  clear H a; intro a H
                  refine s_skip H (wanted_false H rfl rfl rfl rfl) rfl (by decide) ?_
                  clear H a; intro a H
                  refine s_skip H (wanted_false H rfl rfl rfl rfl) rfl (by decide) ?_
                  clear H a; intro a H
                  refine s_opg H (wanted_true H rfl rfl rfl rfl) rfl (by decide) (x_pickT H rfl rfl rfl) ?_
                  clear H a; intro a H
                  refine s_op H rfl rfl (by decide) (x_pickT H rfl rfl rfl) ?_
                  clear H a; intro a H
                  refine wpStill_nil (hR.out _ _ ?_)
                  clear hR R
                  exact ⟨rfl, true, H.sub ⟨rfl, rfl, rfl, trivial⟩, rfl, fun _ => ⟨hlt, p, hp, .inl hcu⟩, (fun h => by cases h)⟩
                · skip
                  obtain ⟨p, hp⟩ : ∃ p, (ps ++ [(x, ux)])[i]? = some p := ⟨_, List.getElem?_eq_getElem (by simp; omega)⟩
                  have hwp : p.1.what = 2 := by rw [hp] at hcw; simpa using hcw
                  refine e_quiet (by kernel_rfl) (by kernel_rfl) (fun R hR => ?_)
                  rw [← hwd]
                  refine s_op H rfl rfl (by decide) (x_move H rfl rfl) ?_
                  clear H a; intro a H
                  refine s_op H rfl rfl (by decide) (x_move H rfl rfl) ?_
                  clear H a; intro a H
                  refine s_op H rfl rfl (by decide) (x_nilCheck H rfl rfl) ?_
                  clear H a; intro a H
                  refine s_op H rfl rfl (by decide) (x_fieldAddr H rfl rfl (fa191_2 _ _)) ?_
                  clear H a; intro a H
                  refine s_op H rfl rfl (by decide) (x_load H rfl rfl (l_cell Try.isAgg84 (RB.at_ (i := 2) rfl))) ?_
                  clear H a; intro a H
                  refine s_op H rfl rfl (by decide) (x_builtin H rfl rfl (fun cs => len_sl under84)) ?_
                  clear H a; intro a H
                  refine s_op H rfl rfl (by decide) (x_binI H rfl rfl rfl (b_lss (b := true) (dec_t (by omega)))) ?_
                  clear H a; intro a H
                  refine s_op H rfl rfl (by decide) (x_move H rfl rfl) ?_
                  clear H a; intro a H
                  refine s_opg H (wanted_true H rfl rfl rfl rfl) rfl (by decide) (x_move H rfl rfl) ?_
                  clear H a; intro a H
                  refine s_opg H (wanted_true H rfl rfl rfl rfl) rfl (by decide) (x_nilCheck H rfl rfl) ?_
                  clear H a; intro a H
                  refine s_opg H (wanted_true H rfl rfl rfl rfl) rfl (by decide) (x_fieldAddr H rfl rfl (fa191_1 _ _)) ?_
                  clear H a; intro a H
                  refine s_opg H (wanted_true H rfl rfl rfl rfl) rfl (by decide) (x_load H rfl rfl (l_cell Try.isAgg3 (RB.at_ (i := 1) rfl))) ?_
                  clear H a; intro a H
                  refine s_opg H (wanted_true H rfl rfl rfl rfl) rfl (by decide) (x_move H rfl rfl) ?_
                  clear H a; intro a H
                  refine s_opg H (wanted_true H rfl rfl rfl rfl) rfl (by decide) (x_nilCheck H rfl rfl) ?_
                  clear H a; intro a H
                  refine s_opg H (wanted_true H rfl rfl rfl rfl) rfl (by decide) (x_fieldAddr H rfl rfl (fa191_0 _ _)) ?_
                  clear H a; intro a H
                  refine s_opg H (wanted_true H rfl rfl rfl rfl) rfl (by decide) (x_load H rfl rfl (l_cell Try.isAgg3 (RB.at_ (i := 0) rfl))) ?_
                  clear H a; intro a H
                  refine s_opg H (wanted_true H rfl rfl rfl rfl) rfl (by decide) (x_binI H rfl rfl rfl (b_gtr (b := false) (dec_f hcu))) ?_
                  clear H a; intro a H
                  refine s_opg H (wanted_true H rfl rfl rfl rfl) rfl (by decide) (x_move H rfl rfl) ?_
                  clear H a; intro a H
                  refine s_opg H (wanted_true H rfl rfl rfl rfl) rfl (by decide) (x_move H rfl rfl) ?_
                  clear H a; intro a H
                  refine s_opg H (wanted_true H rfl rfl rfl rfl) rfl (by decide) (x_nilCheck H rfl rfl) ?_
                  clear H a; intro a H
                  refine s_opg H (wanted_true H rfl rfl rfl rfl) rfl (by decide) (x_fieldAddr H rfl rfl (fa191_2 _ _)) ?_
                  clear H a; intro a H
                  refine s_opg H (wanted_true H rfl rfl rfl rfl) rfl (by decide) (x_load H rfl rfl (l_cell Try.isAgg84 (RB.at_ (i := 2) rfl))) ?_
                  clear H a; intro a H
                  refine s_opg H (wanted_true H rfl rfl rfl rfl) rfl (by decide) (x_move H rfl rfl) ?_
                  clear H a; intro a H
                  refine s_opg H (wanted_true H rfl rfl rfl rfl) rfl (by decide) (x_indexAddr H rfl rfl rfl (i_slN (m := i) under84 size95 rfl hlt)) ?_
                  clear H a; intro a H
                  refine s_opg H (wanted_true H rfl rfl rfl rfl) rfl (by decide) (x_fieldAddr H rfl rfl (fa95o_3 _ _ _)) ?_
                  clear H a; intro a H
                  obtain ⟨gb, off, hgb, hcl, hok, hzp, hBb⟩ := RL.at_ i p hp
                  simp only [Option.some.injEq, Addr.mk.injEq] at hgb
                  obtain ⟨rfl, rfl, _⟩ := hgb
                  refine s_opg H (wanted_true H rfl rfl rfl rfl) rfl (by decide) (x_load H rfl rfl (l_cell Try.isAgg89 (hcl 18 _ (rc_what hok.words)))) ?_
                  clear H a; intro a H
                  refine s_opg H (wanted_true H rfl rfl rfl rfl) rfl (by decide) (x_binI H rfl rfl rfl (b_eql (b := true) (by simp [hwp]))) ?_
                  clear H a; intro a H
                  refine s_opg H (wanted_true H rfl rfl rfl rfl) rfl (by decide) (x_pickF H rfl rfl rfl) ?_
                  clear H a; intro a H
                  refine s_op H rfl rfl (by decide) (x_pickT H rfl rfl rfl) ?_
                  clear H a; intro a H
                  refine wpStill_nil (hR.out _ _ ?_)
                  clear hR R
                  exact ⟨rfl, true, H.sub ⟨rfl, rfl, rfl, trivial⟩, rfl, fun _ => ⟨hlt, p, hp, .inr hwp⟩, (fun h => by cases h)⟩
                · skip
                  obtain ⟨p, hp⟩ : ∃ p, (ps ++ [(x, ux)])[i]? = some p := ⟨_, List.getElem?_eq_getElem (by simp; omega)⟩
                  have hwp : p.1.what ≠ 2 := by rw [hp] at hcw; simpa using hcw
                  refine e_quiet (by kernel_rfl) (by kernel_rfl) (fun R hR => ?_)
                  rw [← hwd]
                  refine s_op H rfl rfl (by decide) (x_move H rfl rfl) ?_
                  clear H a; intro a H
                  refine s_op H rfl rfl (by decide) (x_move H rfl rfl) ?_
                  clear H a; intro a H
                  refine s_op H rfl rfl (by decide) (x_nilCheck H rfl rfl) ?_
                  clear H a; intro a H
                  refine s_op H rfl rfl (by decide) (x_fieldAddr H rfl rfl (fa191_2 _ _)) ?_
                  clear H a; intro a H
                  refine s_op H rfl rfl (by decide) (x_load H rfl rfl (l_cell Try.isAgg84 (RB.at_ (i := 2) rfl))) ?_
                  clear H a; intro a H
                  refine s_op H rfl rfl (by decide) (x_builtin H rfl rfl (fun cs => len_sl under84)) ?_
                  clear H a; intro a H
                  refine s_op H rfl rfl (by decide) (x_binI H rfl rfl rfl (b_lss (b := true) (dec_t (by omega)))) ?_
                  clear H a; intro a H
                  refine s_op H rfl rfl (by decide) (x_move H rfl rfl) ?_
                  clear H a; intro a H
                  refine s_opg H (wanted_true H rfl rfl rfl rfl) rfl (by decide) (x_move H rfl rfl) ?_
                  clear H a; intro a H
                  refine s_opg H (wanted_true H rfl rfl rfl rfl) rfl (by decide) (x_nilCheck H rfl rfl) ?_
                  clear H a; intro a H
                  refine s_opg H (wanted_true H rfl rfl rfl rfl) rfl (by decide) (x_fieldAddr H rfl rfl (fa191_1 _ _)) ?_
                  clear H a; intro a H
                  refine s_opg H (wanted_true H rfl rfl rfl rfl) rfl (by decide) (x_load H rfl rfl (l_cell Try.isAgg3 (RB.at_ (i := 1) rfl))) ?_
                  clear H a; intro a H
                  refine s_opg H (wanted_true H rfl rfl rfl rfl) rfl (by decide) (x_move H rfl rfl) ?_
                  clear H a; intro a H
                  refine s_opg H (wanted_true H rfl rfl rfl rfl) rfl (by decide) (x_nilCheck H rfl rfl) ?_
                  clear H a; intro a H
                  refine s_opg H (wanted_true H rfl rfl rfl rfl) rfl (by decide) (x_fieldAddr H rfl rfl (fa191_0 _ _)) ?_
                  clear H a; intro a H
                  refine s_opg H (wanted_true H rfl rfl rfl rfl) rfl (by decide) (x_load H rfl rfl (l_cell Try.isAgg3 (RB.at_ (i := 0) rfl))) ?_
                  clear H a; intro a H
                  refine s_opg H (wanted_true H rfl rfl rfl rfl) rfl (by decide) (x_binI H rfl rfl rfl (b_gtr (b := false) (dec_f hcu))) ?_
                  clear H a; intro a H
                  refine s_opg H (wanted_true H rfl rfl rfl rfl) rfl (by decide) (x_move H rfl rfl) ?_
                  clear H a; intro a H
                  refine s_opg H (wanted_true H rfl rfl rfl rfl) rfl (by decide) (x_move H rfl rfl) ?_
                  clear H a; intro a H
                  refine s_opg H (wanted_true H rfl rfl rfl rfl) rfl (by decide) (x_nilCheck H rfl rfl) ?_
                  clear H a; intro a H
                  refine s_opg H (wanted_true H rfl rfl rfl rfl) rfl (by decide) (x_fieldAddr H rfl rfl (fa191_2 _ _)) ?_
                  clear H a; intro a H
                  refine s_opg H (wanted_true H rfl rfl rfl rfl) rfl (by decide) (x_load H rfl rfl (l_cell Try.isAgg84 (RB.at_ (i := 2) rfl))) ?_
                  clear H a; intro a H
                  refine s_opg H (wanted_true H rfl rfl rfl rfl) rfl (by decide) (x_move H rfl rfl) ?_
                  clear H a; intro a H
                  refine s_opg H (wanted_true H rfl rfl rfl rfl) rfl (by decide) (x_indexAddr H rfl rfl rfl (i_slN (m := i) under84 size95 rfl hlt)) ?_
                  clear H a; intro a H
                  refine s_opg H (wanted_true H rfl rfl rfl rfl) rfl (by decide) (x_fieldAddr H rfl rfl (fa95o_3 _ _ _)) ?_
                  clear H a; intro a H
                  obtain ⟨gb, off, hgb, hcl, hok, hzp, hBb⟩ := RL.at_ i p hp
                  simp only [Option.some.injEq, Addr.mk.injEq] at hgb
                  obtain ⟨rfl, rfl, _⟩ := hgb
                  refine s_opg H (wanted_true H rfl rfl rfl rfl) rfl (by decide) (x_load H rfl rfl (l_cell Try.isAgg89 (hcl 18 _ (rc_what hok.words)))) ?_
                  clear H a; intro a H
                  refine s_opg H (wanted_true H rfl rfl rfl rfl) rfl (by decide) (x_binI H rfl rfl rfl (b_eql (b := false) (by simp; omega))) ?_
                  clear H a; intro a H
                  refine s_opg H (wanted_true H rfl rfl rfl rfl) rfl (by decide) (x_pickF H rfl rfl rfl) ?_
                  clear H a; intro a H
                  refine s_op H rfl rfl (by decide) (x_pickT H rfl rfl rfl) ?_
                  clear H a; intro a H
                  refine wpStill_nil (hR.out _ _ ?_)
                  clear hR R
                  exact ⟨rfl, false, H.sub ⟨rfl, rfl, rfl, trivial⟩, rfl, (fun h => by cases h), fun _ => by rw [dropL i p hp, dropR, if_neg (by rintro (h | h); exact hcu h; exact hwp h)]⟩
          · skip
            refine g_start (fun w' => Frm [g] wd w') (by kernel_rfl) (fun R hR => ?_)
            rw [← hwd]
            refine g_take 0 H rfl (wanted_none rfl) rfl (by decide) (by kernel_rfl) (by kernel_rfl) (by kernel_rfl) FSq (fun w' hSw => (x_move H rfl rfl)) ?_
            clear H a; intro a H
            refine g_take 1 H rfl (wanted_none rfl) rfl (by decide) (by kernel_rfl) (by kernel_rfl) (by kernel_rfl) FSq (fun w' hSw => (x_nilCheck H rfl rfl)) ?_
            clear H a; intro a H
            refine g_take 2 H rfl (wanted_none rfl) rfl (by decide) (by kernel_rfl) (by kernel_rfl) (by kernel_rfl) FSq (fun w' hSw => (x_fieldAddr H rfl rfl (fa191_1 _ _))) ?_
            clear H a; intro a H
            refine g_take 4 H rfl (wanted_none rfl) rfl (by decide) (by kernel_rfl) (by kernel_rfl) (by kernel_rfl) FSq (fun w' hSw => (x_load H rfl rfl (ld_rec (T0.frm hSw (by simpa using hgne)) hx.words))) ?_
            clear H a; intro a H
            refine g_twoc 3 5 H (by kernel_rfl) rfl (wanted_none rfl) rfl (by decide) (x_load H rfl rfl (l_cell Try.isAgg3 (RB.at_ (i := 1) rfl))) (FSq) rfl (wanted_none rfl) rfl (by decide) rfl rfl (Try.call116 _) (size_any x (.slice ua un uc) _ hx Z.zl) ?_ ?_
            · skip
              clear H a; intro a H
              refine g_call 5 H rfl (by kernel_rfl) (wanted_none rfl) rfl (by decide) rfl rfl (Try.call116 _) (size_any x (.slice ua un uc) _ hx Z.zl) ?_
              clear H a
              rintro e we ⟨rfl, Ee⟩
              replace RB := RB.ext Ee
              replace RL := RL.ext Ee
              replace Z := Z.ext Ee
              replace FF := FF.tr Ee.frm
              replace FSq := FSq.tr Ee.frm
              refine ⟨_, rfl, FSq, fun a H => ?_⟩
              refine g_take 6 H rfl (wanted_none rfl) rfl (by decide) (by kernel_rfl) (by kernel_rfl) (by kernel_rfl) FSq (fun w' hSw => (x_binI H rfl rfl rfl (b_add (z := ((r.used + x.size : Nat) : Int)) (by rw [IntKind.wrap_i64]; omega)))) ?_
              clear H a; intro a H
              refine g_take 7 H rfl (wanted_none rfl) rfl (by decide) (by kernel_rfl) (by kernel_rfl) (by kernel_rfl) FSq (fun w' hSw => (x_nilCheck H rfl rfl)) ?_
              clear H a; intro a H
              refine g_take 8 H rfl (wanted_none rfl) rfl (by decide) (by kernel_rfl) (by kernel_rfl) (by kernel_rfl) FSq (fun w' hSw => (x_fieldAddr H rfl rfl (fa191_1 _ _))) ?_
              clear H a; intro a H
              refine g_st 9 H rfl (by kernel_rfl) (wanted_none rfl) rfl (x_store H rfl rfl rfl (st_cell rfl rfl Try.sizeOf3 (RB.frozen _) (RB.isSome 1 (by simp [rgCells])))) (FSq.st g 1 _ (.inl (by simp))) ?_
              have RBn : Blk (we.setCell ⟨g, 1, none⟩ (.int .i64 ((r.used + x.size : Nat) : Int))) g 191 (rgCells r.cap ((r.used + x.size : Nat) : Int) (.slice (some ⟨gr, og, none⟩) (ps.length + 1) cr) true (r.add x).era (r.add x).first (nextOf x)) := RB.set_ 1 (.int .i64 ((r.used + x.size : Nat) : Int))
              have Fn : Frm [g] we (we.setCell ⟨g, 1, none⟩ (.int .i64 ((r.used + x.size : Nat) : Int))) := (Frm.refl [g] we).st g 1 (.int .i64 ((r.used + x.size : Nat) : Int)) (.inl (by simp))
              replace FF := FF.tr (Fn.mono (fun b hb => by simp only [List.mem_singleton] at hb; subst hb; exact List.mem_cons_self ..))
              replace RL := RL.fg RB Fn
              replace RB := RBn
              clear RBn Fn
              generalize we.setCell ⟨g, 1, none⟩ (.int .i64 ((r.used + x.size : Nat) : Int)) = wf at *
              refine g_done (by kernel_rfl) (hR.out _ _ ?_)
              clear hR R
              exact ⟨rfl, H.sub ⟨rfl, trivial⟩, RB, RL, FF⟩
            · skip
              clear H a
              rintro e we ⟨rfl, Ee⟩
              replace RB := RB.ext Ee
              replace RL := RL.ext Ee
              replace Z := Z.ext Ee
              replace FF := FF.tr Ee.frm
              replace FSq := FSq.tr Ee.frm
              refine ⟨_, rfl, FSq, fun a H => ?_⟩
              refine g_op 3 H rfl (by kernel_rfl) (wanted_none rfl) rfl (by decide) (x_load H rfl rfl (l_cell Try.isAgg3 (RB.at_ (i := 1) rfl))) (FSq) ?_
              clear H a; intro a H
              refine g_take 6 H rfl (wanted_none rfl) rfl (by decide) (by kernel_rfl) (by kernel_rfl) (by kernel_rfl) FSq (fun w' hSw => (x_binI H rfl rfl rfl (b_add (z := ((r.used + x.size : Nat) : Int)) (by rw [IntKind.wrap_i64]; omega)))) ?_
              clear H a; intro a H
              refine g_take 7 H rfl (wanted_none rfl) rfl (by decide) (by kernel_rfl) (by kernel_rfl) (by kernel_rfl) FSq (fun w' hSw => (x_nilCheck H rfl rfl)) ?_
              clear H a; intro a H
              refine g_take 8 H rfl (wanted_none rfl) rfl (by decide) (by kernel_rfl) (by kernel_rfl) (by kernel_rfl) FSq (fun w' hSw => (x_fieldAddr H rfl rfl (fa191_1 _ _))) ?_
              clear H a; intro a H
              refine g_st 9 H rfl (by kernel_rfl) (wanted_none rfl) rfl (x_store H rfl rfl rfl (st_cell rfl rfl Try.sizeOf3 (RB.frozen _) (RB.isSome 1 (by simp [rgCells])))) (FSq.st g 1 _ (.inl (by simp))) ?_
              have RBn : Blk (we.setCell ⟨g, 1, none⟩ (.int .i64 ((r.used + x.size : Nat) : Int))) g 191 (rgCells r.cap ((r.used + x.size : Nat) : Int) (.slice (some ⟨gr, og, none⟩) (ps.length + 1) cr) true (r.add x).era (r.add x).first (nextOf x)) := RB.set_ 1 (.int .i64 ((r.used + x.size : Nat) : Int))
              have Fn : Frm [g] we (we.setCell ⟨g, 1, none⟩ (.int .i64 ((r.used + x.size : Nat) : Int))) := (Frm.refl [g] we).st g 1 (.int .i64 ((r.used + x.size : Nat) : Int)) (.inl (by simp))
              replace FF := FF.tr (Fn.mono (fun b hb => by simp only [List.mem_singleton] at hb; subst hb; exact List.mem_cons_self ..))
              replace RL := RL.fg RB Fn
              replace RB := RBn
              clear RBn Fn
              generalize we.setCell ⟨g, 1, none⟩ (.int .i64 ((r.used + x.size : Nat) : Int)) = wf at *
              refine g_done (by kernel_rfl) (hR.out _ _ ?_)
              clear hR R
              exact ⟨rfl, H.sub ⟨rfl, trivial⟩, RB, RL, FF⟩
        · skip
          refine g_start (fun w' => Frm (g :: (Value.slice va ps.length vc).ownBlock.toList) wd w') (by kernel_rfl) (fun R hR => ?_)
          rw [← hwd]
          refine g_take 0 H rfl (wanted_none rfl) rfl (by decide) (by kernel_rfl) (by kernel_rfl) (by kernel_rfl) FSq (fun w' hSw => (x_move H rfl rfl)) ?_
          clear H a; intro a H
          refine g_take 1 H rfl (wanted_none rfl) rfl (by decide) (by kernel_rfl) (by kernel_rfl) (by kernel_rfl) FSq (fun w' hSw => (x_move H rfl rfl)) ?_
          clear H a; intro a H
          refine g_take 2 H rfl (wanted_none rfl) rfl (by decide) (by kernel_rfl) (by kernel_rfl) (by kernel_rfl) FSq (fun w' hSw => (x_nilCheck H rfl rfl)) ?_
          clear H a; intro a H
          refine g_take 3 H rfl (wanted_none rfl) rfl (by decide) (by kernel_rfl) (by kernel_rfl) (by kernel_rfl) FSq (fun w' hSw => (x_fieldAddr H rfl rfl (fa191_2 _ _))) ?_
          clear H a; intro a H
          refine g_take 5 H rfl (wanted_none rfl) rfl (by decide) (by kernel_rfl) (by kernel_rfl) (by kernel_rfl) FSq (fun w' hSw => (x_load H rfl rfl (ld_rec (T0.frm hSw hg1n) hx.words))) ?_
          clear H a; intro a H
          refine g_twoc 4 6 H (by kernel_rfl) rfl (wanted_none rfl) rfl (by decide) (x_load H rfl rfl (l_cell Try.isAgg84 (RB.at_ (i := 2) rfl))) (FSq) rfl (wanted_none rfl) rfl (by decide) rfl rfl (Try.call117 _) (clone_any x (.slice ua un uc) _ hx Z.zl Z.2) ?_ ?_
          · skip
            clear H a; intro a H
            refine g_call 6 H rfl (by kernel_rfl) (wanted_none rfl) rfl (by decide) rfl rfl (Try.call117 _) (clone_any x (.slice ua un uc) _ hx Z.zl Z.2) ?_
            clear H a
            rintro e we ⟨ax, cx, rfl, Zx, Ee⟩
            replace Zx := Zx.mono (B' := B) (Nat.le_trans hB FF.size)
            replace T := T.ext Ee
            replace RB := RB.ext Ee
            replace RL := RL.ext Ee
            replace Z := Z.ext Ee
            replace FF := FF.tr Ee.frm
            replace FSq := FSq.tr Ee.frm
            refine ⟨_, rfl, FSq, fun a H => ?_⟩
            refine g_op 7 H rfl (by kernel_rfl) (wanted_none rfl) rfl (by decide) (x_buildSlice H rfl rfl (bs84 x ax x.ev.args.length cx hx.words _)) (FSq.al _) ?_
            clear H a; intro a H
            have Db := Blk.new we 95 (x.cells (.slice ax x.ev.args.length cx))
            have Ea := (Ext.refl we).al (.cells (x.cells (.slice ax x.ev.args.length cx)).toArray 95)
            replace T := T.ext Ea
            replace RB := RB.ext Ea
            replace RL := RL.ext Ea
            replace Z := Z.ext Ea
            replace FF := FF.tr Ea.frm
            replace FSq := FSq.tr Ea.frm
            replace Zx := Zx.ext Ea
            obtain ⟨gb, hgb⟩ : ∃ g, g = we.heap.size := ⟨_, rfl⟩
            rw [← hgb] at H Db
            generalize we.alloc (.cells (x.cells (.slice ax x.ev.args.length cx)).toArray 95) = wf at *
            have hwf : w0.heap.size ≤ wf.heap.size := FF.size
            have hBw : B ≤ wf.heap.size := Nat.le_trans hB hwf
            obtain ⟨gr, og, cr, wg, hrr, RLg, Gg, hgr⟩ := Rl.app el84 (by decide) RL 84 gb 1 x (.slice ax x.ev.args.length cx) hx Zx Db (cells_one x ax _ cx) (by omega) hBw
            have Fg : Frm (g :: (Value.slice va ps.length vc).ownBlock.toList) wf wg := (Frm.refl _ wf).grown Gg (fun k hk => .inl (by rw [hk]; simp))
            refine g_op 8 H rfl (by kernel_rfl) (wanted_none rfl) rfl (by decide) (x_builtin H rfl rfl (fun cs => bi_app hrr)) (FSq.tr Fg) ?_
            clear H a; intro a H
            replace FSq := FSq.tr Fg
            replace FF := FF.tr Fg
            replace T := T.frm Fg hg1n
            replace Z := Z.frm Fg (RL.no2 RB)
            replace RB := RB.grown Gg (fun e => RL.ne RB g e.symm rfl)
            replace RL := RLg
            clear RLg
            refine g_take 9 H rfl (wanted_none rfl) rfl (by decide) (by kernel_rfl) (by kernel_rfl) (by kernel_rfl) FSq (fun w' hSw => (x_nilCheck H rfl rfl)) ?_
            clear H a; intro a H
            refine g_take 10 H rfl (wanted_none rfl) rfl (by decide) (by kernel_rfl) (by kernel_rfl) (by kernel_rfl) FSq (fun w' hSw => (x_fieldAddr H rfl rfl (fa191_2 _ _))) ?_
            clear H a; intro a H
            refine g_st 11 H rfl (by kernel_rfl) (wanted_none rfl) rfl (x_store H rfl rfl rfl (st_cell rfl rfl Try.sizeOf84 (RB.frozen _) (RB.isSome 2 (by simp [rgCells])))) (FSq.st g 2 _ (.inl (List.mem_cons_self ..))) ?_
            replace hgr : (Value.slice va ps.length vc).ownBlock = some gr ∨ w0.heap.size ≤ gr := hgr.imp id (fun h => Nat.le_trans hwf h)
            have RBn : Blk (wg.setCell ⟨g, 2, none⟩ (.slice (some ⟨gr, og, none⟩) (ps.length + 1) cr)) g 191 (rgCells r.cap ((r.used : Nat) : Int) (.slice (some ⟨gr, og, none⟩) (ps.length + 1) cr) true (r.add x).era (r.add x).first (nextOf x)) := RB.set_ 2 (.slice (some ⟨gr, og, none⟩) (ps.length + 1) cr)
            have Fn : Frm [g] wg (wg.setCell ⟨g, 2, none⟩ (.slice (some ⟨gr, og, none⟩) (ps.length + 1) cr)) := (Frm.refl [g] wg).st g 2 (.slice (some ⟨gr, og, none⟩) (ps.length + 1) cr) (.inl (by simp))
            replace FF := FF.tr (Fn.mono (fun b hb => by simp only [List.mem_singleton] at hb; subst hb; exact List.mem_cons_self ..))
            replace RL := RL.fg RB Fn
            replace T := T.frm Fn (by simpa using hgne)
            replace Z := Z.frm Fn RB.no2
            replace RB := RBn
            clear RBn Fn
            generalize wg.setCell ⟨g, 2, none⟩ (.slice (some ⟨gr, og, none⟩) (ps.length + 1) cr) = wh at *
            refine g_done (by kernel_rfl) (hR.out _ _ ?_)
            clear hR R
            exact ⟨rfl, gr, og, cr, _, H.sub ⟨rfl, rfl, trivial⟩, RB, RL, T, Z, FF, hgr⟩
          · skip
            clear H a
            rintro e we ⟨ax, cx, rfl, Zx, Ee⟩
            replace Zx := Zx.mono (B' := B) (Nat.le_trans hB FF.size)
            replace T := T.ext Ee
            replace RB := RB.ext Ee
            replace RL := RL.ext Ee
            replace Z := Z.ext Ee
            replace FF := FF.tr Ee.frm
            replace FSq := FSq.tr Ee.frm
            refine ⟨_, rfl, FSq, fun a H => ?_⟩
            refine g_two 4 7 H (by kernel_rfl) rfl (wanted_none rfl) rfl (by decide) (x_load H rfl rfl (l_cell Try.isAgg84 (RB.at_ (i := 2) rfl))) (FSq) rfl (wanted_none rfl) rfl (by decide) (x_buildSlice H rfl rfl (bs84 x ax x.ev.args.length cx hx.words _)) (FSq.al _) ?_ ?_
            · skip
              clear H a; intro a H
              refine g_op 7 H rfl (by kernel_rfl) (wanted_none rfl) rfl (by decide) (x_buildSlice H rfl rfl (bs84 x ax x.ev.args.length cx hx.words _)) (FSq.al _) ?_
              clear H a; intro a H
              have Db := Blk.new we 95 (x.cells (.slice ax x.ev.args.length cx))
              have Ea := (Ext.refl we).al (.cells (x.cells (.slice ax x.ev.args.length cx)).toArray 95)
              replace T := T.ext Ea
              replace RB := RB.ext Ea
              replace RL := RL.ext Ea
              replace Z := Z.ext Ea
              replace FF := FF.tr Ea.frm
              replace FSq := FSq.tr Ea.frm
              replace Zx := Zx.ext Ea
              obtain ⟨gb, hgb⟩ : ∃ g, g = we.heap.size := ⟨_, rfl⟩
              rw [← hgb] at H Db
              generalize we.alloc (.cells (x.cells (.slice ax x.ev.args.length cx)).toArray 95) = wf at *
              have hwf : w0.heap.size ≤ wf.heap.size := FF.size
              have hBw : B ≤ wf.heap.size := Nat.le_trans hB hwf
              obtain ⟨gr, og, cr, wg, hrr, RLg, Gg, hgr⟩ := Rl.app el84 (by decide) RL 84 gb 1 x (.slice ax x.ev.args.length cx) hx Zx Db (cells_one x ax _ cx) (by omega) hBw
              have Fg : Frm (g :: (Value.slice va ps.length vc).ownBlock.toList) wf wg := (Frm.refl _ wf).grown Gg (fun k hk => .inl (by rw [hk]; simp))
              refine g_op 8 H rfl (by kernel_rfl) (wanted_none rfl) rfl (by decide) (x_builtin H rfl rfl (fun cs => bi_app hrr)) (FSq.tr Fg) ?_
              clear H a; intro a H
              replace FSq := FSq.tr Fg
              replace FF := FF.tr Fg
              replace T := T.frm Fg hg1n
              replace Z := Z.frm Fg (RL.no2 RB)
              replace RB := RB.grown Gg (fun e => RL.ne RB g e.symm rfl)
              replace RL := RLg
              clear RLg
              refine g_take 9 H rfl (wanted_none rfl) rfl (by decide) (by kernel_rfl) (by kernel_rfl) (by kernel_rfl) FSq (fun w' hSw => (x_nilCheck H rfl rfl)) ?_
              clear H a; intro a H
              refine g_take 10 H rfl (wanted_none rfl) rfl (by decide) (by kernel_rfl) (by kernel_rfl) (by kernel_rfl) FSq (fun w' hSw => (x_fieldAddr H rfl rfl (fa191_2 _ _))) ?_
              clear H a; intro a H
              refine g_st 11 H rfl (by kernel_rfl) (wanted_none rfl) rfl (x_store H rfl rfl rfl (st_cell rfl rfl Try.sizeOf84 (RB.frozen _) (RB.isSome 2 (by simp [rgCells])))) (FSq.st g 2 _ (.inl (List.mem_cons_self ..))) ?_
              replace hgr : (Value.slice va ps.length vc).ownBlock = some gr ∨ w0.heap.size ≤ gr := hgr.imp id (fun h => Nat.le_trans hwf h)
              have RBn : Blk (wg.setCell ⟨g, 2, none⟩ (.slice (some ⟨gr, og, none⟩) (ps.length + 1) cr)) g 191 (rgCells r.cap ((r.used : Nat) : Int) (.slice (some ⟨gr, og, none⟩) (ps.length + 1) cr) true (r.add x).era (r.add x).first (nextOf x)) := RB.set_ 2 (.slice (some ⟨gr, og, none⟩) (ps.length + 1) cr)
              have Fn : Frm [g] wg (wg.setCell ⟨g, 2, none⟩ (.slice (some ⟨gr, og, none⟩) (ps.length + 1) cr)) := (Frm.refl [g] wg).st g 2 (.slice (some ⟨gr, og, none⟩) (ps.length + 1) cr) (.inl (by simp))
              replace FF := FF.tr (Fn.mono (fun b hb => by simp only [List.mem_singleton] at hb; subst hb; exact List.mem_cons_self ..))
              replace RL := RL.fg RB Fn
              replace T := T.frm Fn (by simpa using hgne)
              replace Z := Z.frm Fn RB.no2
              replace RB := RBn
              clear RBn Fn
              generalize wg.setCell ⟨g, 2, none⟩ (.slice (some ⟨gr, og, none⟩) (ps.length + 1) cr) = wh at *
              refine g_done (by kernel_rfl) (hR.out _ _ ?_)
              clear hR R
              exact ⟨rfl, gr, og, cr, _, H.sub ⟨rfl, rfl, trivial⟩, RB, RL, T, Z, FF, hgr⟩
            · skip
              clear H a; intro a H
              have Db := Blk.new we 95 (x.cells (.slice ax x.ev.args.length cx))
              have Ea := (Ext.refl we).al (.cells (x.cells (.slice ax x.ev.args.length cx)).toArray 95)
              replace T := T.ext Ea
              replace RB := RB.ext Ea
              replace RL := RL.ext Ea
              replace Z := Z.ext Ea
              replace FF := FF.tr Ea.frm
              replace FSq := FSq.tr Ea.frm
              replace Zx := Zx.ext Ea
              obtain ⟨gb, hgb⟩ : ∃ g, g = we.heap.size := ⟨_, rfl⟩
              rw [← hgb] at H Db
              generalize we.alloc (.cells (x.cells (.slice ax x.ev.args.length cx)).toArray 95) = wf at *
              refine g_op 4 H rfl (by kernel_rfl) (wanted_none rfl) rfl (by decide) (x_load H rfl rfl (l_cell Try.isAgg84 (RB.at_ (i := 2) rfl))) (FSq) ?_
              clear H a; intro a H
              have hwf : w0.heap.size ≤ wf.heap.size := FF.size
              have hBw : B ≤ wf.heap.size := Nat.le_trans hB hwf
              obtain ⟨gr, og, cr, wg, hrr, RLg, Gg, hgr⟩ := Rl.app el84 (by decide) RL 84 gb 1 x (.slice ax x.ev.args.length cx) hx Zx Db (cells_one x ax _ cx) (by omega) hBw
              have Fg : Frm (g :: (Value.slice va ps.length vc).ownBlock.toList) wf wg := (Frm.refl _ wf).grown Gg (fun k hk => .inl (by rw [hk]; simp))
              refine g_op 8 H rfl (by kernel_rfl) (wanted_none rfl) rfl (by decide) (x_builtin H rfl rfl (fun cs => bi_app hrr)) (FSq.tr Fg) ?_
              clear H a; intro a H
              replace FSq := FSq.tr Fg
              replace FF := FF.tr Fg
              replace T := T.frm Fg hg1n
              replace Z := Z.frm Fg (RL.no2 RB)
              replace RB := RB.grown Gg (fun e => RL.ne RB g e.symm rfl)
              replace RL := RLg
              clear RLg
              refine g_take 9 H rfl (wanted_none rfl) rfl (by decide) (by kernel_rfl) (by kernel_rfl) (by kernel_rfl) FSq (fun w' hSw => (x_nilCheck H rfl rfl)) ?_
              clear H a; intro a H
              refine g_take 10 H rfl (wanted_none rfl) rfl (by decide) (by kernel_rfl) (by kernel_rfl) (by kernel_rfl) FSq (fun w' hSw => (x_fieldAddr H rfl rfl (fa191_2 _ _))) ?_
              clear H a; intro a H
              refine g_st 11 H rfl (by kernel_rfl) (wanted_none rfl) rfl (x_store H rfl rfl rfl (st_cell rfl rfl Try.sizeOf84 (RB.frozen _) (RB.isSome 2 (by simp [rgCells])))) (FSq.st g 2 _ (.inl (List.mem_cons_self ..))) ?_
              replace hgr : (Value.slice va ps.length vc).ownBlock = some gr ∨ w0.heap.size ≤ gr := hgr.imp id (fun h => Nat.le_trans hwf h)
              have RBn : Blk (wg.setCell ⟨g, 2, none⟩ (.slice (some ⟨gr, og, none⟩) (ps.length + 1) cr)) g 191 (rgCells r.cap ((r.used : Nat) : Int) (.slice (some ⟨gr, og, none⟩) (ps.length + 1) cr) true (r.add x).era (r.add x).first (nextOf x)) := RB.set_ 2 (.slice (some ⟨gr, og, none⟩) (ps.length + 1) cr)
              have Fn : Frm [g] wg (wg.setCell ⟨g, 2, none⟩ (.slice (some ⟨gr, og, none⟩) (ps.length + 1) cr)) := (Frm.refl [g] wg).st g 2 (.slice (some ⟨gr, og, none⟩) (ps.length + 1) cr) (.inl (by simp))
              replace FF := FF.tr (Fn.mono (fun b hb => by simp only [List.mem_singleton] at hb; subst hb; exact List.mem_cons_self ..))
              replace RL := RL.fg RB Fn
              replace T := T.frm Fn (by simpa using hgne)
              replace Z := Z.frm Fn RB.no2
              replace RB := RBn
              clear RBn Fn
              generalize wg.setCell ⟨g, 2, none⟩ (.slice (some ⟨gr, og, none⟩) (ps.length + 1) cr) = wh at *
              refine g_done (by kernel_rfl) (hR.out _ _ ?_)
              clear hR R
              exact ⟨rfl, gr, og, cr, _, H.sub ⟨rfl, rfl, trivial⟩, RB, RL, T, Z, FF, hgr⟩
      · skip
        by_cases hk : x.what = 2
        · skip
          rw [show (((x.what : Nat) : Int) == 2) = true by simp; omega] at H
          refine c_true H rfl ?_
          refine e_region (fun R hR => ?_)
          refine e_op H rfl rfl (by decide) (x_move H rfl rfl) ?_
          clear H a; intro a H
          refine e_op H rfl rfl (by decide) (x_fieldAddr H rfl rfl (fa95_1 _ _)) ?_
          clear H a; intro a H
          refine e_op H rfl rfl (by decide) (x_load H rfl rfl (l_cell Try.isAgg56 (T.at_ (i := 1) rfl))) ?_
          clear H a; intro a H
          refine e_op H rfl rfl (by decide) (x_fieldAddr H rfl rfl (fa95_5 _ _)) ?_
          clear H a; intro a H
          refine e_op H rfl rfl (by decide) (x_load H rfl rfl (l_cell Try.isAgg56 (T.at_ (rc_lost hx.words)))) ?_
          clear H a; intro a H
          refine e_op H rfl rfl (by decide) (x_binI H rfl rfl rfl (b_add (z := (((x.idx + x.lost) % 18446744073709551616 : Nat) : Int)) (by rw [IntKind.wrap_u64]; omega))) ?_
          clear H a; intro a H
          refine e_op H rfl rfl (by decide) (x_nilCheck H rfl rfl) ?_
          clear H a; intro a H
          refine e_op H rfl rfl (by decide) (x_fieldAddr H rfl rfl (fa191_6 _ _)) ?_
          clear H a; intro a H
          refine e_st H rfl rfl (x_store H rfl rfl rfl (st_cell rfl rfl Try.sizeOf56 (RB.frozen _) (RB.isSome 6 (by simp [rgCells])))) ?_
          have RBn : Blk (w8.setCell ⟨g, 6, none⟩ (.int .u64 (((x.idx + x.lost) % 18446744073709551616 : Nat) : Int))) g 191 (rgCells r.cap ((r.used : Nat) : Int) (.slice va ps.length vc) true (r.add x).era (r.add x).first ((x.idx + x.lost) % 18446744073709551616)) := RB.set_ 6 (.int .u64 (((x.idx + x.lost) % 18446744073709551616 : Nat) : Int))
          have Fn : Frm [g] w8 (w8.setCell ⟨g, 6, none⟩ (.int .u64 (((x.idx + x.lost) % 18446744073709551616 : Nat) : Int))) := (Frm.refl [g] w8).st g 6 (.int .u64 (((x.idx + x.lost) % 18446744073709551616 : Nat) : Int)) (.inl (by simp))
          replace FF := FF.tr Fn
          replace RL := RL.fg RB Fn
          replace T := T.frm Fn (by simpa using hgne)
          replace Z := Z.frm Fn RB.no2
          replace RB := RBn
          clear RBn Fn
          generalize w8.setCell ⟨g, 6, none⟩ (.int .u64 (((x.idx + x.lost) % 18446744073709551616 : Nat) : Int)) = w9 at *
          refine e_nil (hR.out _ _ ?_)
          clear hR R
          rw [show ((x.idx + x.lost) % 18446744073709551616) = nextOf x by unfold nextOf; rw [if_pos hk]] at RB
          exact ⟨rfl, H.sub ⟨rfl, rfl, trivial⟩, RB, RL, T, Z, FF⟩
        · skip
          rw [show (((x.what : Nat) : Int) == 2) = false by simp; omega] at H
          refine c_false H rfl ?_
          refine wp_skip ?_
          rw [show ((x.idx + 1) % 18446744073709551616) = nextOf x by unfold nextOf; rw [if_neg hk]] at RB
          exact ⟨rfl, H.sub ⟨rfl, rfl, trivial⟩, RB, RL, T, Z, FF⟩
    · skip
      by_cases hb : r.begun = true
      · skip
        rw [hb] at H
        rw [hb, show r.era = (r.add x).era by simp [Rg.add, hb], show r.first = (r.add x).first by simp [Rg.add, hb]] at RB
        refine c_false H rfl ?_
        refine wp_skip ?_
        exact ⟨rfl, H.sub ⟨rfl, rfl, trivial⟩, RB, RL, T, Z, FF⟩
      · skip
        simp only [Bool.not_eq_true] at hb
        rw [hb] at H
        refine c_true H rfl ?_
        obtain ⟨w4, hw4⟩ : ∃ wx, wx = w3.drew := ⟨_, rfl⟩
        have Ew4 : Ext w3 w4 := by rw [hw4]; exact (Ext.refl _).dr
        replace RB := RB.ext Ew4
        replace RL := RL.ext Ew4
        replace T := T.ext Ew4
        replace Z := Z.ext Ew4
        replace FF := FF.tr Ew4.frm
        have T0 := T
        have FSq := Frm.refl [g] w4
        refine g_start (fun w' => Frm [g] w4 w') (by kernel_rfl) (fun R hR => ?_)
        rw [← hw4]
        refine g_take 0 H rfl (wanted_none rfl) rfl (by decide) (by kernel_rfl) (by kernel_rfl) (by kernel_rfl) FSq (fun w' hSw => (x_move H rfl rfl)) ?_
        clear H a; intro a H
        refine g_take 1 H rfl (wanted_none rfl) rfl (by decide) (by kernel_rfl) (by kernel_rfl) (by kernel_rfl) FSq (fun w' hSw => (x_move H rfl rfl)) ?_
        clear H a; intro a H
        refine g_take 2 H rfl (wanted_none rfl) rfl (by decide) (by kernel_rfl) (by kernel_rfl) (by kernel_rfl) FSq (fun w' hSw => (x_move H rfl rfl)) ?_
        clear H a; intro a H
        refine g_take 3 H rfl (wanted_none rfl) rfl (by decide) (by kernel_rfl) (by kernel_rfl) (by kernel_rfl) FSq (fun w' hSw => (x_fieldAddr H rfl rfl (fa95_0 _ _))) ?_
        clear H a; intro a H
        refine g_take 4 H rfl (wanted_none rfl) rfl (by decide) (by kernel_rfl) (by kernel_rfl) (by kernel_rfl) FSq (fun w' hSw => (x_load H rfl rfl (l_cell Try.isAgg3 ((T0.frm hSw (by simpa using hgne)).at_ (i := 0) rfl)))) ?_
        clear H a; intro a H
        refine g_take 5 H rfl (wanted_none rfl) rfl (by decide) (by kernel_rfl) (by kernel_rfl) (by kernel_rfl) FSq (fun w' hSw => (x_fieldAddr H rfl rfl (fa95_1 _ _))) ?_
        clear H a; intro a H
        refine g_take 6 H rfl (wanted_none rfl) rfl (by decide) (by kernel_rfl) (by kernel_rfl) (by kernel_rfl) FSq (fun w' hSw => (x_load H rfl rfl (l_cell Try.isAgg56 ((T0.frm hSw (by simpa using hgne)).at_ (i := 1) rfl)))) ?_
        clear H a; intro a H
        refine g_take 7 H rfl (wanted_none rfl) rfl (by decide) (by kernel_rfl) (by kernel_rfl) (by kernel_rfl) FSq (fun w' hSw => (x_nilCheck H rfl rfl)) ?_
        clear H a; intro a H
        refine g_take 8 H rfl (wanted_none rfl) rfl (by decide) (by kernel_rfl) (by kernel_rfl) (by kernel_rfl) FSq (fun w' hSw => (x_fieldAddr H rfl rfl (fa191_3 _ _))) ?_
        clear H a; intro a H
        refine g_st 9 H rfl (by kernel_rfl) (wanted_none rfl) rfl (x_store H rfl rfl rfl (st_cell rfl rfl Try.sizeOf4 (RB.frozen _) (RB.isSome 3 (by simp [rgCells])))) (FSq.st g 3 (.bool true) (.inl (by simp))) ?_
        replace FSq := FSq.st g 3 (.bool true) (.inl (by simp))
        have RBn : Blk (w4.setCell ⟨g, 3, none⟩ (.bool true)) g 191 (rgCells r.cap ((r.used : Nat) : Int) (.slice va ps.length vc) true r.era r.first r.next) := RB.set_ 3 (.bool true)
        have Fn : Frm [g] w4 (w4.setCell ⟨g, 3, none⟩ (.bool true)) := (Frm.refl [g] w4).st g 3 (.bool true) (.inl (by simp))
        replace FF := FF.tr Fn
        replace RL := RL.fg RB Fn
        replace T := T.frm Fn (by simpa using hgne)
        replace Z := Z.frm Fn RB.no2
        replace RB := RBn
        clear RBn Fn
        generalize w4.setCell ⟨g, 3, none⟩ (.bool true) = w5 at *
        refine g_take 10 H rfl (wanted_none rfl) rfl (by decide) (by kernel_rfl) (by kernel_rfl) (by kernel_rfl) FSq (fun w' hSw => (x_nilCheck H rfl rfl)) ?_
        clear H a; intro a H
        refine g_take 11 H rfl (wanted_none rfl) rfl (by decide) (by kernel_rfl) (by kernel_rfl) (by kernel_rfl) FSq (fun w' hSw => (x_fieldAddr H rfl rfl (fa191_4 _ _))) ?_
        clear H a; intro a H
        refine g_st 12 H rfl (by kernel_rfl) (wanted_none rfl) rfl (x_store H rfl rfl rfl (st_cell rfl rfl Try.sizeOf3 (RB.frozen _) (RB.isSome 4 (by simp [rgCells])))) (FSq.st g 4 (.int .i64 x.era) (.inl (by simp))) ?_
        replace FSq := FSq.st g 4 (.int .i64 x.era) (.inl (by simp))
        have RBn : Blk (w5.setCell ⟨g, 4, none⟩ (.int .i64 x.era)) g 191 (rgCells r.cap ((r.used : Nat) : Int) (.slice va ps.length vc) true x.era r.first r.next) := RB.set_ 4 (.int .i64 x.era)
        have Fn : Frm [g] w5 (w5.setCell ⟨g, 4, none⟩ (.int .i64 x.era)) := (Frm.refl [g] w5).st g 4 (.int .i64 x.era) (.inl (by simp))
        replace FF := FF.tr Fn
        replace RL := RL.fg RB Fn
        replace T := T.frm Fn (by simpa using hgne)
        replace Z := Z.frm Fn RB.no2
        replace RB := RBn
        clear RBn Fn
        generalize w5.setCell ⟨g, 4, none⟩ (.int .i64 x.era) = w6 at *
        refine g_take 13 H rfl (wanted_none rfl) rfl (by decide) (by kernel_rfl) (by kernel_rfl) (by kernel_rfl) FSq (fun w' hSw => (x_nilCheck H rfl rfl)) ?_
        clear H a; intro a H
        refine g_take 14 H rfl (wanted_none rfl) rfl (by decide) (by kernel_rfl) (by kernel_rfl) (by kernel_rfl) FSq (fun w' hSw => (x_fieldAddr H rfl rfl (fa191_5 _ _))) ?_
        clear H a; intro a H
        refine g_st 15 H rfl (by kernel_rfl) (wanted_none rfl) rfl (x_store H rfl rfl rfl (st_cell rfl rfl Try.sizeOf56 (RB.frozen _) (RB.isSome 5 (by simp [rgCells])))) (FSq.st g 5 (.int .u64 (x.idx : Int)) (.inl (by simp))) ?_
        replace FSq := FSq.st g 5 (.int .u64 (x.idx : Int)) (.inl (by simp))
        have RBn : Blk (w6.setCell ⟨g, 5, none⟩ (.int .u64 (x.idx : Int))) g 191 (rgCells r.cap ((r.used : Nat) : Int) (.slice va ps.length vc) true x.era x.idx r.next) := RB.set_ 5 (.int .u64 (x.idx : Int))
        have Fn : Frm [g] w6 (w6.setCell ⟨g, 5, none⟩ (.int .u64 (x.idx : Int))) := (Frm.refl [g] w6).st g 5 (.int .u64 (x.idx : Int)) (.inl (by simp))
        replace FF := FF.tr Fn
        replace RL := RL.fg RB Fn
        replace T := T.frm Fn (by simpa using hgne)
        replace Z := Z.frm Fn RB.no2
        replace RB := RBn
        clear RBn Fn
        generalize w6.setCell ⟨g, 5, none⟩ (.int .u64 (x.idx : Int)) = w7 at *
        refine g_done (by kernel_rfl) (hR.out _ _ ?_)
        clear hR R
        clear FSq T0
        rw [show x.era = (r.add x).era by simp [Rg.add, hb], show x.idx = (r.add x).first by simp [Rg.add, hb]] at RB
        exact ⟨rfl, H.sub ⟨rfl, rfl, trivial⟩, RB, RL, T, Z, FF⟩
  · skip
    by_cases hb : r.begun = true
    · skip
      obtain ⟨he, hi0⟩ := hbeg hb
      have hera : (x.era != r.era) = false := by simp [he]
      have hidx : (((x.idx : Nat) : Int) != ((r.next : Nat) : Int)) = false := by simp [hi0]
      refine e_quiet (by kernel_rfl) (by kernel_rfl) (fun R hR => ?_)
      rw [← hw3]
      refine s_op H rfl rfl (by decide) (x_move H rfl rfl) ?_
      clear H a; intro a H
      refine s_op H rfl rfl (by decide) (x_nilCheck H rfl rfl) ?_
      clear H a; intro a H
      refine s_op H rfl rfl (by decide) (x_fieldAddr H rfl rfl (fa191_3 _ _)) ?_
      clear H a; intro a H
      refine s_op H rfl rfl (by decide) (x_load H rfl rfl (l_cell Try.isAgg4 ((show _ = some (.bool true) by rw [← hb]; exact RB.at_ (i := 3) rfl)))) ?_
      clear H a; intro a H
      refine s_op H rfl rfl (by decide) (x_move H rfl rfl) ?_
      clear H a; intro a H
      refine s_opg H (wanted_true H rfl rfl rfl rfl) rfl (by decide) (x_fieldAddr H rfl rfl (fa95_0 _ _)) ?_
      clear H a; intro a H
      refine s_opg H (wanted_true H rfl rfl rfl rfl) rfl (by decide) (x_load H rfl rfl (l_cell Try.isAgg3 (T.at_ (i := 0) rfl))) ?_
      clear H a; intro a H
      refine s_opg H (wanted_true H rfl rfl rfl rfl) rfl (by decide) (x_move H rfl rfl) ?_
      clear H a; intro a H
      refine s_opg H (wanted_true H rfl rfl rfl rfl) rfl (by decide) (x_nilCheck H rfl rfl) ?_
      clear H a; intro a H
      refine s_opg H (wanted_true H rfl rfl rfl rfl) rfl (by decide) (x_fieldAddr H rfl rfl (fa191_4 _ _)) ?_
      clear H a; intro a H
      refine s_opg H (wanted_true H rfl rfl rfl rfl) rfl (by decide) (x_load H rfl rfl (l_cell Try.isAgg3 (RB.at_ (i := 4) rfl))) ?_
      clear H a; intro a H
      refine s_opg H (wanted_true H rfl rfl rfl rfl) rfl (by decide) (x_binI H rfl rfl rfl (b_neq (b := false) (hera))) ?_
      clear H a; intro a H
      refine s_opg H (wanted_true H rfl rfl rfl rfl) rfl (by decide) (x_move H rfl rfl) ?_
      clear H a; intro a H
      refine s_opg H (wanted_true H rfl rfl rfl rfl) rfl (by decide) (x_fieldAddr H rfl rfl (fa95_1 _ _)) ?_
      clear H a; intro a H
      refine s_opg H (wanted_true H rfl rfl rfl rfl) rfl (by decide) (x_load H rfl rfl (l_cell Try.isAgg56 (T.at_ (i := 1) rfl))) ?_
      clear H a; intro a H
      refine s_opg H (wanted_true H rfl rfl rfl rfl) rfl (by decide) (x_move H rfl rfl) ?_
      clear H a; intro a H
      refine s_opg H (wanted_true H rfl rfl rfl rfl) rfl (by decide) (x_nilCheck H rfl rfl) ?_
      clear H a; intro a H
      refine s_opg H (wanted_true H rfl rfl rfl rfl) rfl (by decide) (x_fieldAddr H rfl rfl (fa191_6 _ _)) ?_
      clear H a; intro a H
      refine s_opg H (wanted_true H rfl rfl rfl rfl) rfl (by decide) (x_load H rfl rfl (l_cell Try.isAgg56 (RB.at_ (i := 6) rfl))) ?_
      clear H a; intro a H
      refine s_opg H (wanted_true H rfl rfl rfl rfl) rfl (by decide) (x_binI H rfl rfl rfl (b_neq (b := false) (hidx))) ?_
      clear H a; intro a H
      refine s_opg H (wanted_true H rfl rfl rfl rfl) rfl (by decide) (x_pickF H rfl rfl rfl) ?_
      clear H a; intro a H
      refine s_op H rfl rfl (by decide) (x_pickT H rfl rfl rfl) ?_
      clear H a; intro a H
      refine wpStill_nil (hR.out _ _ ?_)
      clear hR R
      exact ⟨rfl, H.sub ⟨rfl, rfl, rfl, trivial⟩, rfl⟩
    · skip
      simp only [Bool.not_eq_true] at hb
      refine e_quiet (by kernel_rfl) (by kernel_rfl) (fun R hR => ?_)
      rw [← hw3]
      refine s_op H rfl rfl (by decide) (x_move H rfl rfl) ?_
      clear H a; intro a H
      refine s_op H rfl rfl (by decide) (x_nilCheck H rfl rfl) ?_
      clear H a; intro a H
      refine s_op H rfl rfl (by decide) (x_fieldAddr H rfl rfl (fa191_3 _ _)) ?_
      clear H a; intro a H
      refine s_op H rfl rfl (by decide) (x_load H rfl rfl (l_cell Try.isAgg4 ((show _ = some (.bool false) by rw [← hb]; exact RB.at_ (i := 3) rfl)))) ?_
      clear H a; intro a H
      refine s_op H rfl rfl (by decide) (x_move H rfl rfl) ?_
      clear H a; intro a H
      refine s_skip H (wanted_false H rfl rfl rfl rfl) rfl (by decide) ?_
      clear H a; intro a H
      refine s_skip H (wanted_false H rfl rfl rfl rfl) rfl (by decide) ?_
      clear H a; intro a H
      refine s_skip H (wanted_false H rfl rfl rfl rfl) rfl (by decide) ?_
      clear H a; intro a H
      refine s_skip H (wanted_false H rfl rfl rfl rfl) rfl (by decide) ?_
      clear H a; intro a H
      refine s_skip H (wanted_false H rfl rfl rfl rfl) rfl (by decide) ?_
      clear H a; intro a H
      refine s_skip H (wanted_false H rfl rfl rfl rfl) rfl (by decide) ?_
      clear H a; intro a H
      refine s_skip H (wanted_false H rfl rfl rfl rfl) rfl (by decide) ?_
      clear H a; intro a H
      refine s_skip H (wanted_false H rfl rfl rfl rfl) rfl (by decide) ?_
      clear H a; intro a H
      refine s_skip H (wanted_undef H rfl rfl rfl rfl) rfl (by decide) ?_
      clear H a; intro a H
      refine s_skip H (wanted_undef H rfl rfl rfl rfl) rfl (by decide) ?_
      clear H a; intro a H
      refine s_skip H (wanted_undef H rfl rfl rfl rfl) rfl (by decide) ?_
      clear H a; intro a H
      refine s_skip H (wanted_undef H rfl rfl rfl rfl) rfl (by decide) ?_
      clear H a; intro a H
      refine s_skip H (wanted_undef H rfl rfl rfl rfl) rfl (by decide) ?_
      clear H a; intro a H
      refine s_skip H (wanted_undef H rfl rfl rfl rfl) rfl (by decide) ?_
      clear H a; intro a H
      refine s_skip H (wanted_undef H rfl rfl rfl rfl) rfl (by decide) ?_
      clear H a; intro a H
      refine s_skip H (wanted_false H rfl rfl rfl rfl) rfl (by decide) ?_
      clear H a; intro a H
      refine s_op H rfl rfl (by decide) (x_pickF H rfl rfl rfl) ?_
      clear H a; intro a H
      refine wpStill_nil (hR.out _ _ ?_)
      clear hR R
      exact ⟨rfl, H.sub ⟨rfl, rfl, rfl, trivial⟩, rfl⟩
end Go.Proofs.Ytknllmcpogoeoaa
