/- checkEvent, walked. -/
import Derived.Test.YtknllmcpogoeoaaR1
namespace Go.Proofs.Ytknllmcpogoeoaa
open Go.RowKit
set_option linter.unusedVariables false
set_option linter.unusedSimpArgs false
set_option maxRecDepth 100000
theorem fa93_0 (b : Nat) (w : World) : (Instr.fieldAt 93 (.pointer (some ⟨b, 0, none⟩)) 0).run Try.prog w = .ok (.pointer (some ⟨b, 0, none⟩)) w := by kernel_rfl
theorem fa93_1 (b : Nat) (w : World) : (Instr.fieldAt 93 (.pointer (some ⟨b, 0, none⟩)) 1).run Try.prog w = .ok (.pointer (some ⟨b, 1, none⟩)) w := by kernel_rfl
theorem fa93_2 (b : Nat) (w : World) : (Instr.fieldAt 93 (.pointer (some ⟨b, 0, none⟩)) 2).run Try.prog w = .ok (.pointer (some ⟨b, 2, none⟩)) w := by kernel_rfl
theorem fa93_3 (b : Nat) (w : World) : (Instr.fieldAt 93 (.pointer (some ⟨b, 0, none⟩)) 3).run Try.prog w = .ok (.pointer (some ⟨b, 3, none⟩)) w := by kernel_rfl
theorem fa93_4 (b : Nat) (w : World) : (Instr.fieldAt 93 (.pointer (some ⟨b, 0, none⟩)) 4).run Try.prog w = .ok (.pointer (some ⟨b, 4, none⟩)) w := by kernel_rfl
theorem fa93_5 (b : Nat) (w : World) : (Instr.fieldAt 93 (.pointer (some ⟨b, 0, none⟩)) 5).run Try.prog w = .ok (.pointer (some ⟨b, 5, none⟩)) w := by kernel_rfl
theorem fa93_6 (b : Nat) (w : World) : (Instr.fieldAt 93 (.pointer (some ⟨b, 0, none⟩)) 6).run Try.prog w = .ok (.pointer (some ⟨b, 6, none⟩)) w := by kernel_rfl
theorem fa93_7 (b : Nat) (w : World) : (Instr.fieldAt 93 (.pointer (some ⟨b, 0, none⟩)) 7).run Try.prog w = .ok (.pointer (some ⟨b, 7, none⟩)) w := by kernel_rfl
theorem fa93_8 (b : Nat) (w : World) : (Instr.fieldAt 93 (.pointer (some ⟨b, 0, none⟩)) 8).run Try.prog w = .ok (.pointer (some ⟨b, 8, none⟩)) w := by kernel_rfl
theorem within_is (v high : Int) (b : Bool) (h : inN v high = b) (w : World) : Calls Try.prog 127 #[.int .i64 v, .int .i64 high] w fun e w' => e = .returned (.bool b) ∧ w' = w := by
  subst h; exact within_any v high w
theorem under91 : Try.prog.underlying 91 = some (.slice 2) := by kernel_rfl
section
variable {P : Program} {a : Act} {N : Nat} {l : List (Nat × Value)} {w : World} {o : Oper} {v : Value} {Q : Exit → Act → World → Prop} {ops : Array Oper} {rest : List Oper} {d : Nat}
theorem e_callqg (H : Has a N l) {f : FuncId} {xs : List Operand} {ts : Array TypeId} {vs : List Value} (hw : Region.wanted o (yielded ops a.tmps) = true) (hd : o.dst = some d) (hdN : d < N)
    (ho : o.op = .call { callee := .value (.func f), args := xs.toArray, argTypes := ts }) (he : evs l xs = some vs) (hent : ∀ w, (callFunc f vs.toArray).run P w = .ok (.enter f vs.toArray) w)
    {S : Ending → World → Prop} (C : Calls P f vs.toArray w S)
    (k : ∀ e w', S e w' → ∃ v, e = .returned v ∧ ∀ a, Has a N ((d, v) :: l) → wpList P ops Q rest a w') : wpList P ops Q (o :: rest) a w := by
  refine wpList_step fun K hK => ?_
  rw [if_pos hw]
  unfold Oper.wp
  rw [run_call H ho he (hent w), Oper.upon_enter]
  refine C.mono ?_
  intro e w1 hS
  obtain ⟨v, rfl, h⟩ := k e w1 hS
  rw [hd]
  exact hK _ _ (h _ (H.put hdN))
end
theorem cev0 (x : Evt) (era : Int) (ad : Option Addr) (n c : Nat) (w : World) (h0 : (x.comp == era) = false) :
    Calls Try.prog 125 #[.agg (x.cells (.slice ad n c)).toArray, .int .i64 era] w fun e w' => e = .returned (.bool false) ∧ Ext w w' := by
  refine calls_has (args := [.agg (x.cells (.slice ad n c)).toArray, .int .i64 era]) Try.func125 rfl Try.ntmps125 (Nat.le_of_ble_eq_true rfl) (fun a H => ?_)
  simp only [argl, Nat.reduceAdd] at H
  refine wp_seq_k (fun K1 hK1 => ?_)
  refine e_region (fun R hR => ?_)
  refine e_op H rfl rfl (by decide) (x_box H rfl rfl bx_new) ?_
  clear H a; intro a H
  have T2 := Blk.new w 93 (x.cells (.slice ad n c))
  have E2 := (Ext.refl w).al (.cells (x.cells (.slice ad n c)).toArray 93)
  obtain ⟨g2, hg2⟩ : ∃ g, g = w.heap.size := ⟨_, rfl⟩
  rw [← hg2] at H T2
  generalize w.alloc (.cells (x.cells (.slice ad n c)).toArray 93) = w2 at *
  refine e_op H rfl rfl (by decide) (x_assign H rfl rfl) ?_
  clear H a; intro a H
  refine e_nil (hR.out _ _ ?_)
  clear hR R
  refine hK1 _ _ ?_
  clear hK1 K1
  refine wp_seq_k (fun K2 hK2 => ?_)
  refine e_region (fun R hR => ?_)
  refine e_op H rfl rfl (by decide) (x_fieldAddr H rfl rfl (fa93_1 _ _)) ?_
  clear H a; intro a H
  refine e_op H rfl rfl (by decide) (x_load H rfl rfl (l_cell Try.isAgg3 (T2.at_ (i := 1) rfl))) ?_
  clear H a; intro a H
  refine e_op H rfl rfl (by decide) (x_move H rfl rfl) ?_
  clear H a; intro a H
  refine e_op H rfl rfl (by decide) (x_binI H rfl rfl rfl (b_eql (b := false) (h0))) ?_
  clear H a; intro a H
  refine e_op H rfl rfl (by decide) (x_move H rfl rfl) ?_
  clear H a; intro a H
  refine e_skip H (wanted_false H rfl rfl rfl rfl) rfl (by decide) ?_
  clear H a; intro a H
  refine e_skip H (wanted_false H rfl rfl rfl rfl) rfl (by decide) ?_
  clear H a; intro a H
  refine e_skip H (wanted_false H rfl rfl rfl rfl) rfl (by decide) ?_
  clear H a; intro a H
  refine e_op H rfl rfl (by decide) (x_pickF H rfl rfl rfl) ?_
  clear H a; intro a H
  refine e_op H rfl rfl (by decide) (x_move H rfl rfl) ?_
  clear H a; intro a H
  refine e_skip H (wanted_false H rfl rfl rfl rfl) rfl (by decide) ?_
  clear H a; intro a H
  refine e_skip H (wanted_false H rfl rfl rfl rfl) rfl (by decide) ?_
  clear H a; intro a H
  refine e_skip H (wanted_false H rfl rfl rfl rfl) rfl (by decide) ?_
  clear H a; intro a H
  refine e_op H rfl rfl (by decide) (x_pickF H rfl rfl rfl) ?_
  clear H a; intro a H
  refine e_op H rfl rfl (by decide) (x_move H rfl rfl) ?_
  clear H a; intro a H
  refine e_skip H (wanted_false H rfl rfl rfl rfl) rfl (by decide) ?_
  clear H a; intro a H
  refine e_skip H (wanted_false H rfl rfl rfl rfl) rfl (by decide) ?_
  clear H a; intro a H
  refine e_skip H (wanted_false H rfl rfl rfl rfl) rfl (by decide) ?_
  clear H a; intro a H
  refine e_op H rfl rfl (by decide) (x_pickF H rfl rfl rfl) ?_
  clear H a; intro a H
  refine e_op H rfl rfl (by decide) (x_move H rfl rfl) ?_
  clear H a; intro a H
  refine e_skip H (wanted_false H rfl rfl rfl rfl) rfl (by decide) ?_
  clear H a; intro a H
  refine e_skip H (wanted_false H rfl rfl rfl rfl) rfl (by decide) ?_
  clear H a; intro a H
  refine e_skip H (wanted_false H rfl rfl rfl rfl) rfl (by decide) ?_
  clear H a; intro a H
  refine e_op H rfl rfl (by decide) (x_pickF H rfl rfl rfl) ?_
  clear H a; intro a H
  refine e_op H rfl rfl (by decide) (x_move H rfl rfl) ?_
  clear H a; intro a H
  refine e_skip H (wanted_false H rfl rfl rfl rfl) rfl (by decide) ?_
  clear H a; intro a H
  refine e_skip H (wanted_false H rfl rfl rfl rfl) rfl (by decide) ?_
  clear H a; intro a H
  refine e_skip H (wanted_false H rfl rfl rfl rfl) rfl (by decide) ?_
  clear H a; intro a H
  refine e_op H rfl rfl (by decide) (x_pickF H rfl rfl rfl) ?_
  clear H a; intro a H
  refine e_op H rfl rfl (by decide) (x_move H rfl rfl) ?_
  clear H a; intro a H
  refine e_skip H (wanted_false H rfl rfl rfl rfl) rfl (by decide) ?_
  clear H a; intro a H
  refine e_skip H (wanted_false H rfl rfl rfl rfl) rfl (by decide) ?_
  clear H a; intro a H
  refine e_skip H (wanted_false H rfl rfl rfl rfl) rfl (by decide) ?_
  clear H a; intro a H
  refine e_op H rfl rfl (by decide) (x_pickF H rfl rfl rfl) ?_
  clear H a; intro a H
  refine e_op H rfl rfl (by decide) (x_move H rfl rfl) ?_
  clear H a; intro a H
  refine e_skip H (wanted_false H rfl rfl rfl rfl) rfl (by decide) ?_
  clear H a; intro a H
  refine e_skip H (wanted_false H rfl rfl rfl rfl) rfl (by decide) ?_
  clear H a; intro a H
  refine e_skip H (wanted_false H rfl rfl rfl rfl) rfl (by decide) ?_
  clear H a; intro a H
  refine e_op H rfl rfl (by decide) (x_pickF H rfl rfl rfl) ?_
  clear H a; intro a H
  refine e_op H rfl rfl (by decide) (x_move H rfl rfl) ?_
  clear H a; intro a H
  refine e_skip H (wanted_false H rfl rfl rfl rfl) rfl (by decide) ?_
  clear H a; intro a H
  refine e_skip H (wanted_false H rfl rfl rfl rfl) rfl (by decide) ?_
  clear H a; intro a H
  refine e_skip H (wanted_false H rfl rfl rfl rfl) rfl (by decide) ?_
  clear H a; intro a H
  refine e_skip H (wanted_false H rfl rfl rfl rfl) rfl (by decide) ?_
  clear H a; intro a H
  refine e_op H rfl rfl (by decide) (x_pickF H rfl rfl rfl) ?_
  clear H a; intro a H
  refine e_op H rfl rfl (by decide) (x_assign H rfl rfl) ?_
  clear H a; intro a H
  refine e_nil (hR.out _ _ ?_)
  clear hR R
  refine hK2 _ _ ?_
  clear hK2 K2
  refine wp_ret ?_
  exact ret1 H rfl rfl ⟨rfl, E2⟩
theorem cev1 (x : Evt) (era : Int) (ad : Option Addr) (n c : Nat) (w : World) (h0 : (x.comp == era) = true) (h1 : inN x.a 200 = false) :
    Calls Try.prog 125 #[.agg (x.cells (.slice ad n c)).toArray, .int .i64 era] w fun e w' => e = .returned (.bool false) ∧ Ext w w' := by
  refine calls_has (args := [.agg (x.cells (.slice ad n c)).toArray, .int .i64 era]) Try.func125 rfl Try.ntmps125 (Nat.le_of_ble_eq_true rfl) (fun a H => ?_)
  simp only [argl, Nat.reduceAdd] at H
  refine wp_seq_k (fun K1 hK1 => ?_)
  refine e_region (fun R hR => ?_)
  refine e_op H rfl rfl (by decide) (x_box H rfl rfl bx_new) ?_
  clear H a; intro a H
  have T2 := Blk.new w 93 (x.cells (.slice ad n c))
  have E2 := (Ext.refl w).al (.cells (x.cells (.slice ad n c)).toArray 93)
  obtain ⟨g2, hg2⟩ : ∃ g, g = w.heap.size := ⟨_, rfl⟩
  rw [← hg2] at H T2
  generalize w.alloc (.cells (x.cells (.slice ad n c)).toArray 93) = w2 at *
  refine e_op H rfl rfl (by decide) (x_assign H rfl rfl) ?_
  clear H a; intro a H
  refine e_nil (hR.out _ _ ?_)
  clear hR R
  refine hK1 _ _ ?_
  clear hK1 K1
  refine wp_seq_k (fun K2 hK2 => ?_)
  refine e_region (fun R hR => ?_)
  refine e_op H rfl rfl (by decide) (x_fieldAddr H rfl rfl (fa93_1 _ _)) ?_
  clear H a; intro a H
  refine e_op H rfl rfl (by decide) (x_load H rfl rfl (l_cell Try.isAgg3 (T2.at_ (i := 1) rfl))) ?_
  clear H a; intro a H
  refine e_op H rfl rfl (by decide) (x_move H rfl rfl) ?_
  clear H a; intro a H
  refine e_op H rfl rfl (by decide) (x_binI H rfl rfl rfl (b_eql (b := true) (h0))) ?_
  clear H a; intro a H
  refine e_op H rfl rfl (by decide) (x_move H rfl rfl) ?_
  clear H a; intro a H
  refine e_opg H (wanted_true H rfl rfl rfl rfl) rfl (by decide) (x_fieldAddr H rfl rfl (fa93_0 _ _)) ?_
  clear H a; intro a H
  refine e_opg H (wanted_true H rfl rfl rfl rfl) rfl (by decide) (x_load H rfl rfl (l_cell Try.isAgg3 (T2.at_ (i := 0) rfl))) ?_
  clear H a; intro a H
  refine e_callqg H (wanted_true H rfl rfl rfl rfl) rfl (by decide) rfl rfl (Try.call127 _) (within_is _ _ false h1 _) ?_
  clear H a
  rintro e w9 ⟨rfl, rfl⟩
  refine ⟨_, rfl, fun a H => ?_⟩
  refine e_op H rfl rfl (by decide) (x_pickT H rfl rfl rfl) ?_
  clear H a; intro a H
  refine e_op H rfl rfl (by decide) (x_move H rfl rfl) ?_
  clear H a; intro a H
  refine e_skip H (wanted_false H rfl rfl rfl rfl) rfl (by decide) ?_
  clear H a; intro a H
  refine e_skip H (wanted_false H rfl rfl rfl rfl) rfl (by decide) ?_
  clear H a; intro a H
  refine e_skip H (wanted_false H rfl rfl rfl rfl) rfl (by decide) ?_
  clear H a; intro a H
  refine e_op H rfl rfl (by decide) (x_pickF H rfl rfl rfl) ?_
  clear H a; intro a H
  refine e_op H rfl rfl (by decide) (x_move H rfl rfl) ?_
  clear H a; intro a H
  refine e_skip H (wanted_false H rfl rfl rfl rfl) rfl (by decide) ?_
  clear H a; intro a H
  refine e_skip H (wanted_false H rfl rfl rfl rfl) rfl (by decide) ?_
  clear H a; intro a H
  refine e_skip H (wanted_false H rfl rfl rfl rfl) rfl (by decide) ?_
  clear H a; intro a H
  refine e_op H rfl rfl (by decide) (x_pickF H rfl rfl rfl) ?_
  clear H a; intro a H
  refine e_op H rfl rfl (by decide) (x_move H rfl rfl) ?_
  clear H a; intro a H
  refine e_skip H (wanted_false H rfl rfl rfl rfl) rfl (by decide) ?_
  clear H a; intro a H
  refine e_skip H (wanted_false H rfl rfl rfl rfl) rfl (by decide) ?_
  clear H a; intro a H
  refine e_skip H (wanted_false H rfl rfl rfl rfl) rfl (by decide) ?_
  clear H a; intro a H
  refine e_op H rfl rfl (by decide) (x_pickF H rfl rfl rfl) ?_
  clear H a; intro a H
  refine e_op H rfl rfl (by decide) (x_move H rfl rfl) ?_
  clear H a; intro a H
  refine e_skip H (wanted_false H rfl rfl rfl rfl) rfl (by decide) ?_
  clear H a; intro a H
  refine e_skip H (wanted_false H rfl rfl rfl rfl) rfl (by decide) ?_
  clear H a; intro a H
  refine e_skip H (wanted_false H rfl rfl rfl rfl) rfl (by decide) ?_
  clear H a; intro a H
  refine e_op H rfl rfl (by decide) (x_pickF H rfl rfl rfl) ?_
  clear H a; intro a H
  refine e_op H rfl rfl (by decide) (x_move H rfl rfl) ?_
  clear H a; intro a H
  refine e_skip H (wanted_false H rfl rfl rfl rfl) rfl (by decide) ?_
  clear H a; intro a H
  refine e_skip H (wanted_false H rfl rfl rfl rfl) rfl (by decide) ?_
  clear H a; intro a H
  refine e_skip H (wanted_false H rfl rfl rfl rfl) rfl (by decide) ?_
  clear H a; intro a H
  refine e_op H rfl rfl (by decide) (x_pickF H rfl rfl rfl) ?_
  clear H a; intro a H
  refine e_op H rfl rfl (by decide) (x_move H rfl rfl) ?_
  clear H a; intro a H
  refine e_skip H (wanted_false H rfl rfl rfl rfl) rfl (by decide) ?_
  clear H a; intro a H
  refine e_skip H (wanted_false H rfl rfl rfl rfl) rfl (by decide) ?_
  clear H a; intro a H
  refine e_skip H (wanted_false H rfl rfl rfl rfl) rfl (by decide) ?_
  clear H a; intro a H
  refine e_op H rfl rfl (by decide) (x_pickF H rfl rfl rfl) ?_
  clear H a; intro a H
  refine e_op H rfl rfl (by decide) (x_move H rfl rfl) ?_
  clear H a; intro a H
  refine e_skip H (wanted_false H rfl rfl rfl rfl) rfl (by decide) ?_
  clear H a; intro a H
  refine e_skip H (wanted_false H rfl rfl rfl rfl) rfl (by decide) ?_
  clear H a; intro a H
  refine e_skip H (wanted_false H rfl rfl rfl rfl) rfl (by decide) ?_
  clear H a; intro a H
  refine e_skip H (wanted_false H rfl rfl rfl rfl) rfl (by decide) ?_
  clear H a; intro a H
  refine e_op H rfl rfl (by decide) (x_pickF H rfl rfl rfl) ?_
  clear H a; intro a H
  refine e_op H rfl rfl (by decide) (x_assign H rfl rfl) ?_
  clear H a; intro a H
  refine e_nil (hR.out _ _ ?_)
  clear hR R
  refine hK2 _ _ ?_
  clear hK2 K2
  refine wp_ret ?_
  exact ret1 H rfl rfl ⟨rfl, E2⟩
theorem cev2 (x : Evt) (era : Int) (ad : Option Addr) (n c : Nat) (w : World) (h0 : (x.comp == era) = true) (h1 : inN x.a 200 = true) (h2 : decide ((1 : Int) ≤ (x.kind : Int)) = false) :
    Calls Try.prog 125 #[.agg (x.cells (.slice ad n c)).toArray, .int .i64 era] w fun e w' => e = .returned (.bool false) ∧ Ext w w' := by
  refine calls_has (args := [.agg (x.cells (.slice ad n c)).toArray, .int .i64 era]) Try.func125 rfl Try.ntmps125 (Nat.le_of_ble_eq_true rfl) (fun a H => ?_)
  simp only [argl, Nat.reduceAdd] at H
  refine wp_seq_k (fun K1 hK1 => ?_)
  refine e_region (fun R hR => ?_)
  refine e_op H rfl rfl (by decide) (x_box H rfl rfl bx_new) ?_
  clear H a; intro a H
  have T2 := Blk.new w 93 (x.cells (.slice ad n c))
  have E2 := (Ext.refl w).al (.cells (x.cells (.slice ad n c)).toArray 93)
  obtain ⟨g2, hg2⟩ : ∃ g, g = w.heap.size := ⟨_, rfl⟩
  rw [← hg2] at H T2
  generalize w.alloc (.cells (x.cells (.slice ad n c)).toArray 93) = w2 at *
  refine e_op H rfl rfl (by decide) (x_assign H rfl rfl) ?_
  clear H a; intro a H
  refine e_nil (hR.out _ _ ?_)
  clear hR R
  refine hK1 _ _ ?_
  clear hK1 K1
  refine wp_seq_k (fun K2 hK2 => ?_)
  refine e_region (fun R hR => ?_)
  refine e_op H rfl rfl (by decide) (x_fieldAddr H rfl rfl (fa93_1 _ _)) ?_
  clear H a; intro a H
  refine e_op H rfl rfl (by decide) (x_load H rfl rfl (l_cell Try.isAgg3 (T2.at_ (i := 1) rfl))) ?_
  clear H a; intro a H
  refine e_op H rfl rfl (by decide) (x_move H rfl rfl) ?_
  clear H a; intro a H
  refine e_op H rfl rfl (by decide) (x_binI H rfl rfl rfl (b_eql (b := true) (h0))) ?_
  clear H a; intro a H
  refine e_op H rfl rfl (by decide) (x_move H rfl rfl) ?_
  clear H a; intro a H
  refine e_opg H (wanted_true H rfl rfl rfl rfl) rfl (by decide) (x_fieldAddr H rfl rfl (fa93_0 _ _)) ?_
  clear H a; intro a H
  refine e_opg H (wanted_true H rfl rfl rfl rfl) rfl (by decide) (x_load H rfl rfl (l_cell Try.isAgg3 (T2.at_ (i := 0) rfl))) ?_
  clear H a; intro a H
  refine e_callqg H (wanted_true H rfl rfl rfl rfl) rfl (by decide) rfl rfl (Try.call127 _) (within_is _ _ true h1 _) ?_
  clear H a
  rintro e w9 ⟨rfl, rfl⟩
  refine ⟨_, rfl, fun a H => ?_⟩
  refine e_op H rfl rfl (by decide) (x_pickT H rfl rfl rfl) ?_
  clear H a; intro a H
  refine e_op H rfl rfl (by decide) (x_move H rfl rfl) ?_
  clear H a; intro a H
  refine e_opg H (wanted_true H rfl rfl rfl rfl) rfl (by decide) (x_fieldAddr H rfl rfl (fa93_2 _ _)) ?_
  clear H a; intro a H
  refine e_opg H (wanted_true H rfl rfl rfl rfl) rfl (by decide) (x_load H rfl rfl (l_cell Try.isAgg90 (T2.at_ (i := 2) rfl))) ?_
  clear H a; intro a H
  refine e_opg H (wanted_true H rfl rfl rfl rfl) rfl (by decide) (x_binI H rfl rfl rfl (b_leq (b := false) (h2))) ?_
  clear H a; intro a H
  refine e_op H rfl rfl (by decide) (x_pickT H rfl rfl rfl) ?_
  clear H a; intro a H
  refine e_op H rfl rfl (by decide) (x_move H rfl rfl) ?_
  clear H a; intro a H
  refine e_skip H (wanted_false H rfl rfl rfl rfl) rfl (by decide) ?_
  clear H a; intro a H
  refine e_skip H (wanted_false H rfl rfl rfl rfl) rfl (by decide) ?_
  clear H a; intro a H
  refine e_skip H (wanted_false H rfl rfl rfl rfl) rfl (by decide) ?_
  clear H a; intro a H
  refine e_op H rfl rfl (by decide) (x_pickF H rfl rfl rfl) ?_
  clear H a; intro a H
  refine e_op H rfl rfl (by decide) (x_move H rfl rfl) ?_
  clear H a; intro a H
  refine e_skip H (wanted_false H rfl rfl rfl rfl) rfl (by decide) ?_
  clear H a; intro a H
  refine e_skip H (wanted_false H rfl rfl rfl rfl) rfl (by decide) ?_
  clear H a; intro a H
  refine e_skip H (wanted_false H rfl rfl rfl rfl) rfl (by decide) ?_
  clear H a; intro a H
  refine e_op H rfl rfl (by decide) (x_pickF H rfl rfl rfl) ?_
  clear H a; intro a H
  refine e_op H rfl rfl (by decide) (x_move H rfl rfl) ?_
  clear H a; intro a H
  refine e_skip H (wanted_false H rfl rfl rfl rfl) rfl (by decide) ?_
  clear H a; intro a H
  refine e_skip H (wanted_false H rfl rfl rfl rfl) rfl (by decide) ?_
  clear H a; intro a H
  refine e_skip H (wanted_false H rfl rfl rfl rfl) rfl (by decide) ?_
  clear H a; intro a H
  refine e_op H rfl rfl (by decide) (x_pickF H rfl rfl rfl) ?_
  clear H a; intro a H
  refine e_op H rfl rfl (by decide) (x_move H rfl rfl) ?_
  clear H a; intro a H
  refine e_skip H (wanted_false H rfl rfl rfl rfl) rfl (by decide) ?_
  clear H a; intro a H
  refine e_skip H (wanted_false H rfl rfl rfl rfl) rfl (by decide) ?_
  clear H a; intro a H
  refine e_skip H (wanted_false H rfl rfl rfl rfl) rfl (by decide) ?_
  clear H a; intro a H
  refine e_op H rfl rfl (by decide) (x_pickF H rfl rfl rfl) ?_
  clear H a; intro a H
  refine e_op H rfl rfl (by decide) (x_move H rfl rfl) ?_
  clear H a; intro a H
  refine e_skip H (wanted_false H rfl rfl rfl rfl) rfl (by decide) ?_
  clear H a; intro a H
  refine e_skip H (wanted_false H rfl rfl rfl rfl) rfl (by decide) ?_
  clear H a; intro a H
  refine e_skip H (wanted_false H rfl rfl rfl rfl) rfl (by decide) ?_
  clear H a; intro a H
  refine e_op H rfl rfl (by decide) (x_pickF H rfl rfl rfl) ?_
  clear H a; intro a H
  refine e_op H rfl rfl (by decide) (x_move H rfl rfl) ?_
  clear H a; intro a H
  refine e_skip H (wanted_false H rfl rfl rfl rfl) rfl (by decide) ?_
  clear H a; intro a H
  refine e_skip H (wanted_false H rfl rfl rfl rfl) rfl (by decide) ?_
  clear H a; intro a H
  refine e_skip H (wanted_false H rfl rfl rfl rfl) rfl (by decide) ?_
  clear H a; intro a H
  refine e_skip H (wanted_false H rfl rfl rfl rfl) rfl (by decide) ?_
  clear H a; intro a H
  refine e_op H rfl rfl (by decide) (x_pickF H rfl rfl rfl) ?_
  clear H a; intro a H
  refine e_op H rfl rfl (by decide) (x_assign H rfl rfl) ?_
  clear H a; intro a H
  refine e_nil (hR.out _ _ ?_)
  clear hR R
  refine hK2 _ _ ?_
  clear hK2 K2
  refine wp_ret ?_
  exact ret1 H rfl rfl ⟨rfl, E2⟩
theorem cev3 (x : Evt) (era : Int) (ad : Option Addr) (n c : Nat) (w : World) (h0 : (x.comp == era) = true) (h1 : inN x.a 200 = true) (h2 : decide ((1 : Int) ≤ (x.kind : Int)) = true) (h3 : decide ((x.kind : Int) ≤ 11) = false) :
    Calls Try.prog 125 #[.agg (x.cells (.slice ad n c)).toArray, .int .i64 era] w fun e w' => e = .returned (.bool false) ∧ Ext w w' := by
  refine calls_has (args := [.agg (x.cells (.slice ad n c)).toArray, .int .i64 era]) Try.func125 rfl Try.ntmps125 (Nat.le_of_ble_eq_true rfl) (fun a H => ?_)
  simp only [argl, Nat.reduceAdd] at H
  refine wp_seq_k (fun K1 hK1 => ?_)
  refine e_region (fun R hR => ?_)
  refine e_op H rfl rfl (by decide) (x_box H rfl rfl bx_new) ?_
  clear H a; intro a H
  have T2 := Blk.new w 93 (x.cells (.slice ad n c))
  have E2 := (Ext.refl w).al (.cells (x.cells (.slice ad n c)).toArray 93)
  obtain ⟨g2, hg2⟩ : ∃ g, g = w.heap.size := ⟨_, rfl⟩
  rw [← hg2] at H T2
  generalize w.alloc (.cells (x.cells (.slice ad n c)).toArray 93) = w2 at *
  refine e_op H rfl rfl (by decide) (x_assign H rfl rfl) ?_
  clear H a; intro a H
  refine e_nil (hR.out _ _ ?_)
  clear hR R
  refine hK1 _ _ ?_
  clear hK1 K1
  refine wp_seq_k (fun K2 hK2 => ?_)
  refine e_region (fun R hR => ?_)
  refine e_op H rfl rfl (by decide) (x_fieldAddr H rfl rfl (fa93_1 _ _)) ?_
  clear H a; intro a H
  refine e_op H rfl rfl (by decide) (x_load H rfl rfl (l_cell Try.isAgg3 (T2.at_ (i := 1) rfl))) ?_
  clear H a; intro a H
  refine e_op H rfl rfl (by decide) (x_move H rfl rfl) ?_
  clear H a; intro a H
  refine e_op H rfl rfl (by decide) (x_binI H rfl rfl rfl (b_eql (b := true) (h0))) ?_
  clear H a; intro a H
  refine e_op H rfl rfl (by decide) (x_move H rfl rfl) ?_
  clear H a; intro a H
  refine e_opg H (wanted_true H rfl rfl rfl rfl) rfl (by decide) (x_fieldAddr H rfl rfl (fa93_0 _ _)) ?_
  clear H a; intro a H
  refine e_opg H (wanted_true H rfl rfl rfl rfl) rfl (by decide) (x_load H rfl rfl (l_cell Try.isAgg3 (T2.at_ (i := 0) rfl))) ?_
  clear H a; intro a H
  refine e_callqg H (wanted_true H rfl rfl rfl rfl) rfl (by decide) rfl rfl (Try.call127 _) (within_is _ _ true h1 _) ?_
  clear H a
  rintro e w9 ⟨rfl, rfl⟩
  refine ⟨_, rfl, fun a H => ?_⟩
  refine e_op H rfl rfl (by decide) (x_pickT H rfl rfl rfl) ?_
  clear H a; intro a H
  refine e_op H rfl rfl (by decide) (x_move H rfl rfl) ?_
  clear H a; intro a H
  refine e_opg H (wanted_true H rfl rfl rfl rfl) rfl (by decide) (x_fieldAddr H rfl rfl (fa93_2 _ _)) ?_
  clear H a; intro a H
  refine e_opg H (wanted_true H rfl rfl rfl rfl) rfl (by decide) (x_load H rfl rfl (l_cell Try.isAgg90 (T2.at_ (i := 2) rfl))) ?_
  clear H a; intro a H
  refine e_opg H (wanted_true H rfl rfl rfl rfl) rfl (by decide) (x_binI H rfl rfl rfl (b_leq (b := true) (h2))) ?_
  clear H a; intro a H
  refine e_op H rfl rfl (by decide) (x_pickT H rfl rfl rfl) ?_
  clear H a; intro a H
  refine e_op H rfl rfl (by decide) (x_move H rfl rfl) ?_
  clear H a; intro a H
  refine e_opg H (wanted_true H rfl rfl rfl rfl) rfl (by decide) (x_fieldAddr H rfl rfl (fa93_2 _ _)) ?_
  clear H a; intro a H
  refine e_opg H (wanted_true H rfl rfl rfl rfl) rfl (by decide) (x_load H rfl rfl (l_cell Try.isAgg90 (T2.at_ (i := 2) rfl))) ?_
  clear H a; intro a H
  refine e_opg H (wanted_true H rfl rfl rfl rfl) rfl (by decide) (x_binI H rfl rfl rfl (b_leq (b := false) (h3))) ?_
  clear H a; intro a H
  refine e_op H rfl rfl (by decide) (x_pickT H rfl rfl rfl) ?_
  clear H a; intro a H
  refine e_op H rfl rfl (by decide) (x_move H rfl rfl) ?_
  clear H a; intro a H
  refine e_skip H (wanted_false H rfl rfl rfl rfl) rfl (by decide) ?_
  clear H a; intro a H
  refine e_skip H (wanted_false H rfl rfl rfl rfl) rfl (by decide) ?_
  clear H a; intro a H
  refine e_skip H (wanted_false H rfl rfl rfl rfl) rfl (by decide) ?_
  clear H a; intro a H
  refine e_op H rfl rfl (by decide) (x_pickF H rfl rfl rfl) ?_
  clear H a; intro a H
  refine e_op H rfl rfl (by decide) (x_move H rfl rfl) ?_
  clear H a; intro a H
  refine e_skip H (wanted_false H rfl rfl rfl rfl) rfl (by decide) ?_
  clear H a; intro a H
  refine e_skip H (wanted_false H rfl rfl rfl rfl) rfl (by decide) ?_
  clear H a; intro a H
  refine e_skip H (wanted_false H rfl rfl rfl rfl) rfl (by decide) ?_
  clear H a; intro a H
  refine e_op H rfl rfl (by decide) (x_pickF H rfl rfl rfl) ?_
  clear H a; intro a H
  refine e_op H rfl rfl (by decide) (x_move H rfl rfl) ?_
  clear H a; intro a H
  refine e_skip H (wanted_false H rfl rfl rfl rfl) rfl (by decide) ?_
  clear H a; intro a H
  refine e_skip H (wanted_false H rfl rfl rfl rfl) rfl (by decide) ?_
  clear H a; intro a H
  refine e_skip H (wanted_false H rfl rfl rfl rfl) rfl (by decide) ?_
  clear H a; intro a H
  refine e_op H rfl rfl (by decide) (x_pickF H rfl rfl rfl) ?_
  clear H a; intro a H
  refine e_op H rfl rfl (by decide) (x_move H rfl rfl) ?_
  clear H a; intro a H
  refine e_skip H (wanted_false H rfl rfl rfl rfl) rfl (by decide) ?_
  clear H a; intro a H
  refine e_skip H (wanted_false H rfl rfl rfl rfl) rfl (by decide) ?_
  clear H a; intro a H
  refine e_skip H (wanted_false H rfl rfl rfl rfl) rfl (by decide) ?_
  clear H a; intro a H
  refine e_op H rfl rfl (by decide) (x_pickF H rfl rfl rfl) ?_
  clear H a; intro a H
  refine e_op H rfl rfl (by decide) (x_move H rfl rfl) ?_
  clear H a; intro a H
  refine e_skip H (wanted_false H rfl rfl rfl rfl) rfl (by decide) ?_
  clear H a; intro a H
  refine e_skip H (wanted_false H rfl rfl rfl rfl) rfl (by decide) ?_
  clear H a; intro a H
  refine e_skip H (wanted_false H rfl rfl rfl rfl) rfl (by decide) ?_
  clear H a; intro a H
  refine e_skip H (wanted_false H rfl rfl rfl rfl) rfl (by decide) ?_
  clear H a; intro a H
  refine e_op H rfl rfl (by decide) (x_pickF H rfl rfl rfl) ?_
  clear H a; intro a H
  refine e_op H rfl rfl (by decide) (x_assign H rfl rfl) ?_
  clear H a; intro a H
  refine e_nil (hR.out _ _ ?_)
  clear hR R
  refine hK2 _ _ ?_
  clear hK2 K2
  refine wp_ret ?_
  exact ret1 H rfl rfl ⟨rfl, E2⟩
theorem cev4 (x : Evt) (era : Int) (ad : Option Addr) (n c : Nat) (w : World) (h0 : (x.comp == era) = true) (h1 : inN x.a 200 = true) (h2 : decide ((1 : Int) ≤ (x.kind : Int)) = true) (h3 : decide ((x.kind : Int) ≤ 11) = true) (h4 : inN x.c 8 = false) :
    Calls Try.prog 125 #[.agg (x.cells (.slice ad n c)).toArray, .int .i64 era] w fun e w' => e = .returned (.bool false) ∧ Ext w w' := by
  refine calls_has (args := [.agg (x.cells (.slice ad n c)).toArray, .int .i64 era]) Try.func125 rfl Try.ntmps125 (Nat.le_of_ble_eq_true rfl) (fun a H => ?_)
  simp only [argl, Nat.reduceAdd] at H
  refine wp_seq_k (fun K1 hK1 => ?_)
  refine e_region (fun R hR => ?_)
  refine e_op H rfl rfl (by decide) (x_box H rfl rfl bx_new) ?_
  clear H a; intro a H
  have T2 := Blk.new w 93 (x.cells (.slice ad n c))
  have E2 := (Ext.refl w).al (.cells (x.cells (.slice ad n c)).toArray 93)
  obtain ⟨g2, hg2⟩ : ∃ g, g = w.heap.size := ⟨_, rfl⟩
  rw [← hg2] at H T2
  generalize w.alloc (.cells (x.cells (.slice ad n c)).toArray 93) = w2 at *
  refine e_op H rfl rfl (by decide) (x_assign H rfl rfl) ?_
  clear H a; intro a H
  refine e_nil (hR.out _ _ ?_)
  clear hR R
  refine hK1 _ _ ?_
  clear hK1 K1
  refine wp_seq_k (fun K2 hK2 => ?_)
  refine e_region (fun R hR => ?_)
  refine e_op H rfl rfl (by decide) (x_fieldAddr H rfl rfl (fa93_1 _ _)) ?_
  clear H a; intro a H
  refine e_op H rfl rfl (by decide) (x_load H rfl rfl (l_cell Try.isAgg3 (T2.at_ (i := 1) rfl))) ?_
  clear H a; intro a H
  refine e_op H rfl rfl (by decide) (x_move H rfl rfl) ?_
  clear H a; intro a H
  refine e_op H rfl rfl (by decide) (x_binI H rfl rfl rfl (b_eql (b := true) (h0))) ?_
  clear H a; intro a H
  refine e_op H rfl rfl (by decide) (x_move H rfl rfl) ?_
  clear H a; intro a H
  refine e_opg H (wanted_true H rfl rfl rfl rfl) rfl (by decide) (x_fieldAddr H rfl rfl (fa93_0 _ _)) ?_
  clear H a; intro a H
  refine e_opg H (wanted_true H rfl rfl rfl rfl) rfl (by decide) (x_load H rfl rfl (l_cell Try.isAgg3 (T2.at_ (i := 0) rfl))) ?_
  clear H a; intro a H
  refine e_callqg H (wanted_true H rfl rfl rfl rfl) rfl (by decide) rfl rfl (Try.call127 _) (within_is _ _ true h1 _) ?_
  clear H a
  rintro e w9 ⟨rfl, rfl⟩
  refine ⟨_, rfl, fun a H => ?_⟩
  refine e_op H rfl rfl (by decide) (x_pickT H rfl rfl rfl) ?_
  clear H a; intro a H
  refine e_op H rfl rfl (by decide) (x_move H rfl rfl) ?_
  clear H a; intro a H
  refine e_opg H (wanted_true H rfl rfl rfl rfl) rfl (by decide) (x_fieldAddr H rfl rfl (fa93_2 _ _)) ?_
  clear H a; intro a H
  refine e_opg H (wanted_true H rfl rfl rfl rfl) rfl (by decide) (x_load H rfl rfl (l_cell Try.isAgg90 (T2.at_ (i := 2) rfl))) ?_
  clear H a; intro a H
  refine e_opg H (wanted_true H rfl rfl rfl rfl) rfl (by decide) (x_binI H rfl rfl rfl (b_leq (b := true) (h2))) ?_
  clear H a; intro a H
  refine e_op H rfl rfl (by decide) (x_pickT H rfl rfl rfl) ?_
  clear H a; intro a H
  refine e_op H rfl rfl (by decide) (x_move H rfl rfl) ?_
  clear H a; intro a H
  refine e_opg H (wanted_true H rfl rfl rfl rfl) rfl (by decide) (x_fieldAddr H rfl rfl (fa93_2 _ _)) ?_
  clear H a; intro a H
  refine e_opg H (wanted_true H rfl rfl rfl rfl) rfl (by decide) (x_load H rfl rfl (l_cell Try.isAgg90 (T2.at_ (i := 2) rfl))) ?_
  clear H a; intro a H
  refine e_opg H (wanted_true H rfl rfl rfl rfl) rfl (by decide) (x_binI H rfl rfl rfl (b_leq (b := true) (h3))) ?_
  clear H a; intro a H
  refine e_op H rfl rfl (by decide) (x_pickT H rfl rfl rfl) ?_
  clear H a; intro a H
  refine e_op H rfl rfl (by decide) (x_move H rfl rfl) ?_
  clear H a; intro a H
  refine e_opg H (wanted_true H rfl rfl rfl rfl) rfl (by decide) (x_fieldAddr H rfl rfl (fa93_3 _ _)) ?_
  clear H a; intro a H
  refine e_opg H (wanted_true H rfl rfl rfl rfl) rfl (by decide) (x_load H rfl rfl (l_cell Try.isAgg3 (T2.at_ (i := 3) rfl))) ?_
  clear H a; intro a H
  refine e_callqg H (wanted_true H rfl rfl rfl rfl) rfl (by decide) rfl rfl (Try.call127 _) (within_is _ _ false h4 _) ?_
  clear H a
  rintro e w9 ⟨rfl, rfl⟩
  refine ⟨_, rfl, fun a H => ?_⟩
  refine e_op H rfl rfl (by decide) (x_pickT H rfl rfl rfl) ?_
  clear H a; intro a H
  refine e_op H rfl rfl (by decide) (x_move H rfl rfl) ?_
  clear H a; intro a H
  refine e_skip H (wanted_false H rfl rfl rfl rfl) rfl (by decide) ?_
  clear H a; intro a H
  refine e_skip H (wanted_false H rfl rfl rfl rfl) rfl (by decide) ?_
  clear H a; intro a H
  refine e_skip H (wanted_false H rfl rfl rfl rfl) rfl (by decide) ?_
  clear H a; intro a H
  refine e_op H rfl rfl (by decide) (x_pickF H rfl rfl rfl) ?_
  clear H a; intro a H
  refine e_op H rfl rfl (by decide) (x_move H rfl rfl) ?_
  clear H a; intro a H
  refine e_skip H (wanted_false H rfl rfl rfl rfl) rfl (by decide) ?_
  clear H a; intro a H
  refine e_skip H (wanted_false H rfl rfl rfl rfl) rfl (by decide) ?_
  clear H a; intro a H
  refine e_skip H (wanted_false H rfl rfl rfl rfl) rfl (by decide) ?_
  clear H a; intro a H
  refine e_op H rfl rfl (by decide) (x_pickF H rfl rfl rfl) ?_
  clear H a; intro a H
  refine e_op H rfl rfl (by decide) (x_move H rfl rfl) ?_
  clear H a; intro a H
  refine e_skip H (wanted_false H rfl rfl rfl rfl) rfl (by decide) ?_
  clear H a; intro a H
  refine e_skip H (wanted_false H rfl rfl rfl rfl) rfl (by decide) ?_
  clear H a; intro a H
  refine e_skip H (wanted_false H rfl rfl rfl rfl) rfl (by decide) ?_
  clear H a; intro a H
  refine e_op H rfl rfl (by decide) (x_pickF H rfl rfl rfl) ?_
  clear H a; intro a H
  refine e_op H rfl rfl (by decide) (x_move H rfl rfl) ?_
  clear H a; intro a H
  refine e_skip H (wanted_false H rfl rfl rfl rfl) rfl (by decide) ?_
  clear H a; intro a H
  refine e_skip H (wanted_false H rfl rfl rfl rfl) rfl (by decide) ?_
  clear H a; intro a H
  refine e_skip H (wanted_false H rfl rfl rfl rfl) rfl (by decide) ?_
  clear H a; intro a H
  refine e_skip H (wanted_false H rfl rfl rfl rfl) rfl (by decide) ?_
  clear H a; intro a H
  refine e_op H rfl rfl (by decide) (x_pickF H rfl rfl rfl) ?_
  clear H a; intro a H
  refine e_op H rfl rfl (by decide) (x_assign H rfl rfl) ?_
  clear H a; intro a H
  refine e_nil (hR.out _ _ ?_)
  clear hR R
  refine hK2 _ _ ?_
  clear hK2 K2
  refine wp_ret ?_
  exact ret1 H rfl rfl ⟨rfl, E2⟩
theorem cev5 (x : Evt) (era : Int) (ad : Option Addr) (n c : Nat) (w : World) (h0 : (x.comp == era) = true) (h1 : inN x.a 200 = true) (h2 : decide ((1 : Int) ≤ (x.kind : Int)) = true) (h3 : decide ((x.kind : Int) ≤ 11) = true) (h4 : inN x.c 8 = true) (h5 : inN x.d 2147483647 = false) :
    Calls Try.prog 125 #[.agg (x.cells (.slice ad n c)).toArray, .int .i64 era] w fun e w' => e = .returned (.bool false) ∧ Ext w w' := by
  refine calls_has (args := [.agg (x.cells (.slice ad n c)).toArray, .int .i64 era]) Try.func125 rfl Try.ntmps125 (Nat.le_of_ble_eq_true rfl) (fun a H => ?_)
  simp only [argl, Nat.reduceAdd] at H
  refine wp_seq_k (fun K1 hK1 => ?_)
  refine e_region (fun R hR => ?_)
  refine e_op H rfl rfl (by decide) (x_box H rfl rfl bx_new) ?_
  clear H a; intro a H
  have T2 := Blk.new w 93 (x.cells (.slice ad n c))
  have E2 := (Ext.refl w).al (.cells (x.cells (.slice ad n c)).toArray 93)
  obtain ⟨g2, hg2⟩ : ∃ g, g = w.heap.size := ⟨_, rfl⟩
  rw [← hg2] at H T2
  generalize w.alloc (.cells (x.cells (.slice ad n c)).toArray 93) = w2 at *
  refine e_op H rfl rfl (by decide) (x_assign H rfl rfl) ?_
  clear H a; intro a H
  refine e_nil (hR.out _ _ ?_)
  clear hR R
  refine hK1 _ _ ?_
  clear hK1 K1
  refine wp_seq_k (fun K2 hK2 => ?_)
  refine e_region (fun R hR => ?_)
  refine e_op H rfl rfl (by decide) (x_fieldAddr H rfl rfl (fa93_1 _ _)) ?_
  clear H a; intro a H
  refine e_op H rfl rfl (by decide) (x_load H rfl rfl (l_cell Try.isAgg3 (T2.at_ (i := 1) rfl))) ?_
  clear H a; intro a H
  refine e_op H rfl rfl (by decide) (x_move H rfl rfl) ?_
  clear H a; intro a H
  refine e_op H rfl rfl (by decide) (x_binI H rfl rfl rfl (b_eql (b := true) (h0))) ?_
  clear H a; intro a H
  refine e_op H rfl rfl (by decide) (x_move H rfl rfl) ?_
  clear H a; intro a H
  refine e_opg H (wanted_true H rfl rfl rfl rfl) rfl (by decide) (x_fieldAddr H rfl rfl (fa93_0 _ _)) ?_
  clear H a; intro a H
  refine e_opg H (wanted_true H rfl rfl rfl rfl) rfl (by decide) (x_load H rfl rfl (l_cell Try.isAgg3 (T2.at_ (i := 0) rfl))) ?_
  clear H a; intro a H
  refine e_callqg H (wanted_true H rfl rfl rfl rfl) rfl (by decide) rfl rfl (Try.call127 _) (within_is _ _ true h1 _) ?_
  clear H a
  rintro e w9 ⟨rfl, rfl⟩
  refine ⟨_, rfl, fun a H => ?_⟩
  refine e_op H rfl rfl (by decide) (x_pickT H rfl rfl rfl) ?_
  clear H a; intro a H
  refine e_op H rfl rfl (by decide) (x_move H rfl rfl) ?_
  clear H a; intro a H
  refine e_opg H (wanted_true H rfl rfl rfl rfl) rfl (by decide) (x_fieldAddr H rfl rfl (fa93_2 _ _)) ?_
  clear H a; intro a H
  refine e_opg H (wanted_true H rfl rfl rfl rfl) rfl (by decide) (x_load H rfl rfl (l_cell Try.isAgg90 (T2.at_ (i := 2) rfl))) ?_
  clear H a; intro a H
  refine e_opg H (wanted_true H rfl rfl rfl rfl) rfl (by decide) (x_binI H rfl rfl rfl (b_leq (b := true) (h2))) ?_
  clear H a; intro a H
  refine e_op H rfl rfl (by decide) (x_pickT H rfl rfl rfl) ?_
  clear H a; intro a H
  refine e_op H rfl rfl (by decide) (x_move H rfl rfl) ?_
  clear H a; intro a H
  refine e_opg H (wanted_true H rfl rfl rfl rfl) rfl (by decide) (x_fieldAddr H rfl rfl (fa93_2 _ _)) ?_
  clear H a; intro a H
  refine e_opg H (wanted_true H rfl rfl rfl rfl) rfl (by decide) (x_load H rfl rfl (l_cell Try.isAgg90 (T2.at_ (i := 2) rfl))) ?_
  clear H a; intro a H
  refine e_opg H (wanted_true H rfl rfl rfl rfl) rfl (by decide) (x_binI H rfl rfl rfl (b_leq (b := true) (h3))) ?_
  clear H a; intro a H
  refine e_op H rfl rfl (by decide) (x_pickT H rfl rfl rfl) ?_
  clear H a; intro a H
  refine e_op H rfl rfl (by decide) (x_move H rfl rfl) ?_
  clear H a; intro a H
  refine e_opg H (wanted_true H rfl rfl rfl rfl) rfl (by decide) (x_fieldAddr H rfl rfl (fa93_3 _ _)) ?_
  clear H a; intro a H
  refine e_opg H (wanted_true H rfl rfl rfl rfl) rfl (by decide) (x_load H rfl rfl (l_cell Try.isAgg3 (T2.at_ (i := 3) rfl))) ?_
  clear H a; intro a H
  refine e_callqg H (wanted_true H rfl rfl rfl rfl) rfl (by decide) rfl rfl (Try.call127 _) (within_is _ _ true h4 _) ?_
  clear H a
  rintro e w9 ⟨rfl, rfl⟩
  refine ⟨_, rfl, fun a H => ?_⟩
  refine e_op H rfl rfl (by decide) (x_pickT H rfl rfl rfl) ?_
  clear H a; intro a H
  refine e_op H rfl rfl (by decide) (x_move H rfl rfl) ?_
  clear H a; intro a H
  refine e_opg H (wanted_true H rfl rfl rfl rfl) rfl (by decide) (x_fieldAddr H rfl rfl (fa93_4 _ _)) ?_
  clear H a; intro a H
  refine e_opg H (wanted_true H rfl rfl rfl rfl) rfl (by decide) (x_load H rfl rfl (l_cell Try.isAgg3 (T2.at_ (i := 4) rfl))) ?_
  clear H a; intro a H
  refine e_callqg H (wanted_true H rfl rfl rfl rfl) rfl (by decide) rfl rfl (Try.call127 _) (within_is _ _ false h5 _) ?_
  clear H a
  rintro e w9 ⟨rfl, rfl⟩
  refine ⟨_, rfl, fun a H => ?_⟩
  refine e_op H rfl rfl (by decide) (x_pickT H rfl rfl rfl) ?_
  clear H a; intro a H
  refine e_op H rfl rfl (by decide) (x_move H rfl rfl) ?_
  clear H a; intro a H
  refine e_skip H (wanted_false H rfl rfl rfl rfl) rfl (by decide) ?_
  clear H a; intro a H
  refine e_skip H (wanted_false H rfl rfl rfl rfl) rfl (by decide) ?_
  clear H a; intro a H
  refine e_skip H (wanted_false H rfl rfl rfl rfl) rfl (by decide) ?_
  clear H a; intro a H
  refine e_op H rfl rfl (by decide) (x_pickF H rfl rfl rfl) ?_
  clear H a; intro a H
  refine e_op H rfl rfl (by decide) (x_move H rfl rfl) ?_
  clear H a; intro a H
  refine e_skip H (wanted_false H rfl rfl rfl rfl) rfl (by decide) ?_
  clear H a; intro a H
  refine e_skip H (wanted_false H rfl rfl rfl rfl) rfl (by decide) ?_
  clear H a; intro a H
  refine e_skip H (wanted_false H rfl rfl rfl rfl) rfl (by decide) ?_
  clear H a; intro a H
  refine e_op H rfl rfl (by decide) (x_pickF H rfl rfl rfl) ?_
  clear H a; intro a H
  refine e_op H rfl rfl (by decide) (x_move H rfl rfl) ?_
  clear H a; intro a H
  refine e_skip H (wanted_false H rfl rfl rfl rfl) rfl (by decide) ?_
  clear H a; intro a H
  refine e_skip H (wanted_false H rfl rfl rfl rfl) rfl (by decide) ?_
  clear H a; intro a H
  refine e_skip H (wanted_false H rfl rfl rfl rfl) rfl (by decide) ?_
  clear H a; intro a H
  refine e_skip H (wanted_false H rfl rfl rfl rfl) rfl (by decide) ?_
  clear H a; intro a H
  refine e_op H rfl rfl (by decide) (x_pickF H rfl rfl rfl) ?_
  clear H a; intro a H
  refine e_op H rfl rfl (by decide) (x_assign H rfl rfl) ?_
  clear H a; intro a H
  refine e_nil (hR.out _ _ ?_)
  clear hR R
  refine hK2 _ _ ?_
  clear hK2 K2
  refine wp_ret ?_
  exact ret1 H rfl rfl ⟨rfl, E2⟩
theorem cev6 (x : Evt) (era : Int) (ad : Option Addr) (n c : Nat) (w : World) (h0 : (x.comp == era) = true) (h1 : inN x.a 200 = true) (h2 : decide ((1 : Int) ≤ (x.kind : Int)) = true) (h3 : decide ((x.kind : Int) ≤ 11) = true) (h4 : inN x.c 8 = true) (h5 : inN x.d 2147483647 = true) (h6 : inN x.e 1 = false) :
    Calls Try.prog 125 #[.agg (x.cells (.slice ad n c)).toArray, .int .i64 era] w fun e w' => e = .returned (.bool false) ∧ Ext w w' := by
  refine calls_has (args := [.agg (x.cells (.slice ad n c)).toArray, .int .i64 era]) Try.func125 rfl Try.ntmps125 (Nat.le_of_ble_eq_true rfl) (fun a H => ?_)
  simp only [argl, Nat.reduceAdd] at H
  refine wp_seq_k (fun K1 hK1 => ?_)
  refine e_region (fun R hR => ?_)
  refine e_op H rfl rfl (by decide) (x_box H rfl rfl bx_new) ?_
  clear H a; intro a H
  have T2 := Blk.new w 93 (x.cells (.slice ad n c))
  have E2 := (Ext.refl w).al (.cells (x.cells (.slice ad n c)).toArray 93)
  obtain ⟨g2, hg2⟩ : ∃ g, g = w.heap.size := ⟨_, rfl⟩
  rw [← hg2] at H T2
  generalize w.alloc (.cells (x.cells (.slice ad n c)).toArray 93) = w2 at *
  refine e_op H rfl rfl (by decide) (x_assign H rfl rfl) ?_
  clear H a; intro a H
  refine e_nil (hR.out _ _ ?_)
  clear hR R
  refine hK1 _ _ ?_
  clear hK1 K1
  refine wp_seq_k (fun K2 hK2 => ?_)
  refine e_region (fun R hR => ?_)
  refine e_op H rfl rfl (by decide) (x_fieldAddr H rfl rfl (fa93_1 _ _)) ?_
  clear H a; intro a H
  refine e_op H rfl rfl (by decide) (x_load H rfl rfl (l_cell Try.isAgg3 (T2.at_ (i := 1) rfl))) ?_
  clear H a; intro a H
  refine e_op H rfl rfl (by decide) (x_move H rfl rfl) ?_
  clear H a; intro a H
  refine e_op H rfl rfl (by decide) (x_binI H rfl rfl rfl (b_eql (b := true) (h0))) ?_
  clear H a; intro a H
  refine e_op H rfl rfl (by decide) (x_move H rfl rfl) ?_
  clear H a; intro a H
  refine e_opg H (wanted_true H rfl rfl rfl rfl) rfl (by decide) (x_fieldAddr H rfl rfl (fa93_0 _ _)) ?_
  clear H a; intro a H
  refine e_opg H (wanted_true H rfl rfl rfl rfl) rfl (by decide) (x_load H rfl rfl (l_cell Try.isAgg3 (T2.at_ (i := 0) rfl))) ?_
  clear H a; intro a H
  refine e_callqg H (wanted_true H rfl rfl rfl rfl) rfl (by decide) rfl rfl (Try.call127 _) (within_is _ _ true h1 _) ?_
  clear H a
  rintro e w9 ⟨rfl, rfl⟩
  refine ⟨_, rfl, fun a H => ?_⟩
  refine e_op H rfl rfl (by decide) (x_pickT H rfl rfl rfl) ?_
  clear H a; intro a H
  refine e_op H rfl rfl (by decide) (x_move H rfl rfl) ?_
  clear H a; intro a H
  refine e_opg H (wanted_true H rfl rfl rfl rfl) rfl (by decide) (x_fieldAddr H rfl rfl (fa93_2 _ _)) ?_
  clear H a; intro a H
  refine e_opg H (wanted_true H rfl rfl rfl rfl) rfl (by decide) (x_load H rfl rfl (l_cell Try.isAgg90 (T2.at_ (i := 2) rfl))) ?_
  clear H a; intro a H
  refine e_opg H (wanted_true H rfl rfl rfl rfl) rfl (by decide) (x_binI H rfl rfl rfl (b_leq (b := true) (h2))) ?_
  clear H a; intro a H
  refine e_op H rfl rfl (by decide) (x_pickT H rfl rfl rfl) ?_
  clear H a; intro a H
  refine e_op H rfl rfl (by decide) (x_move H rfl rfl) ?_
  clear H a; intro a H
  refine e_opg H (wanted_true H rfl rfl rfl rfl) rfl (by decide) (x_fieldAddr H rfl rfl (fa93_2 _ _)) ?_
  clear H a; intro a H
  refine e_opg H (wanted_true H rfl rfl rfl rfl) rfl (by decide) (x_load H rfl rfl (l_cell Try.isAgg90 (T2.at_ (i := 2) rfl))) ?_
  clear H a; intro a H
  refine e_opg H (wanted_true H rfl rfl rfl rfl) rfl (by decide) (x_binI H rfl rfl rfl (b_leq (b := true) (h3))) ?_
  clear H a; intro a H
  refine e_op H rfl rfl (by decide) (x_pickT H rfl rfl rfl) ?_
  clear H a; intro a H
  refine e_op H rfl rfl (by decide) (x_move H rfl rfl) ?_
  clear H a; intro a H
  refine e_opg H (wanted_true H rfl rfl rfl rfl) rfl (by decide) (x_fieldAddr H rfl rfl (fa93_3 _ _)) ?_
  clear H a; intro a H
  refine e_opg H (wanted_true H rfl rfl rfl rfl) rfl (by decide) (x_load H rfl rfl (l_cell Try.isAgg3 (T2.at_ (i := 3) rfl))) ?_
  clear H a; intro a H
  refine e_callqg H (wanted_true H rfl rfl rfl rfl) rfl (by decide) rfl rfl (Try.call127 _) (within_is _ _ true h4 _) ?_
  clear H a
  rintro e w9 ⟨rfl, rfl⟩
  refine ⟨_, rfl, fun a H => ?_⟩
  refine e_op H rfl rfl (by decide) (x_pickT H rfl rfl rfl) ?_
  clear H a; intro a H
  refine e_op H rfl rfl (by decide) (x_move H rfl rfl) ?_
  clear H a; intro a H
  refine e_opg H (wanted_true H rfl rfl rfl rfl) rfl (by decide) (x_fieldAddr H rfl rfl (fa93_4 _ _)) ?_
  clear H a; intro a H
  refine e_opg H (wanted_true H rfl rfl rfl rfl) rfl (by decide) (x_load H rfl rfl (l_cell Try.isAgg3 (T2.at_ (i := 4) rfl))) ?_
  clear H a; intro a H
  refine e_callqg H (wanted_true H rfl rfl rfl rfl) rfl (by decide) rfl rfl (Try.call127 _) (within_is _ _ true h5 _) ?_
  clear H a
  rintro e w9 ⟨rfl, rfl⟩
  refine ⟨_, rfl, fun a H => ?_⟩
  refine e_op H rfl rfl (by decide) (x_pickT H rfl rfl rfl) ?_
  clear H a; intro a H
  refine e_op H rfl rfl (by decide) (x_move H rfl rfl) ?_
  clear H a; intro a H
  refine e_opg H (wanted_true H rfl rfl rfl rfl) rfl (by decide) (x_fieldAddr H rfl rfl (fa93_5 _ _)) ?_
  clear H a; intro a H
  refine e_opg H (wanted_true H rfl rfl rfl rfl) rfl (by decide) (x_load H rfl rfl (l_cell Try.isAgg3 (T2.at_ (i := 5) rfl))) ?_
  clear H a; intro a H
  refine e_callqg H (wanted_true H rfl rfl rfl rfl) rfl (by decide) rfl rfl (Try.call127 _) (within_is _ _ false h6 _) ?_
  clear H a
  rintro e w9 ⟨rfl, rfl⟩
  refine ⟨_, rfl, fun a H => ?_⟩
  refine e_op H rfl rfl (by decide) (x_pickT H rfl rfl rfl) ?_
  clear H a; intro a H
  refine e_op H rfl rfl (by decide) (x_move H rfl rfl) ?_
  clear H a; intro a H
  refine e_skip H (wanted_false H rfl rfl rfl rfl) rfl (by decide) ?_
  clear H a; intro a H
  refine e_skip H (wanted_false H rfl rfl rfl rfl) rfl (by decide) ?_
  clear H a; intro a H
  refine e_skip H (wanted_false H rfl rfl rfl rfl) rfl (by decide) ?_
  clear H a; intro a H
  refine e_op H rfl rfl (by decide) (x_pickF H rfl rfl rfl) ?_
  clear H a; intro a H
  refine e_op H rfl rfl (by decide) (x_move H rfl rfl) ?_
  clear H a; intro a H
  refine e_skip H (wanted_false H rfl rfl rfl rfl) rfl (by decide) ?_
  clear H a; intro a H
  refine e_skip H (wanted_false H rfl rfl rfl rfl) rfl (by decide) ?_
  clear H a; intro a H
  refine e_skip H (wanted_false H rfl rfl rfl rfl) rfl (by decide) ?_
  clear H a; intro a H
  refine e_skip H (wanted_false H rfl rfl rfl rfl) rfl (by decide) ?_
  clear H a; intro a H
  refine e_op H rfl rfl (by decide) (x_pickF H rfl rfl rfl) ?_
  clear H a; intro a H
  refine e_op H rfl rfl (by decide) (x_assign H rfl rfl) ?_
  clear H a; intro a H
  refine e_nil (hR.out _ _ ?_)
  clear hR R
  refine hK2 _ _ ?_
  clear hK2 K2
  refine wp_ret ?_
  exact ret1 H rfl rfl ⟨rfl, E2⟩
theorem cev7 (x : Evt) (era : Int) (ad : Option Addr) (n c : Nat) (w : World) (h0 : (x.comp == era) = true) (h1 : inN x.a 200 = true) (h2 : decide ((1 : Int) ≤ (x.kind : Int)) = true) (h3 : decide ((x.kind : Int) ≤ 11) = true) (h4 : inN x.c 8 = true) (h5 : inN x.d 2147483647 = true) (h6 : inN x.e 1 = true) (h7 : inN x.f 7 = false) :
    Calls Try.prog 125 #[.agg (x.cells (.slice ad n c)).toArray, .int .i64 era] w fun e w' => e = .returned (.bool false) ∧ Ext w w' := by
  refine calls_has (args := [.agg (x.cells (.slice ad n c)).toArray, .int .i64 era]) Try.func125 rfl Try.ntmps125 (Nat.le_of_ble_eq_true rfl) (fun a H => ?_)
  simp only [argl, Nat.reduceAdd] at H
  refine wp_seq_k (fun K1 hK1 => ?_)
  refine e_region (fun R hR => ?_)
  refine e_op H rfl rfl (by decide) (x_box H rfl rfl bx_new) ?_
  clear H a; intro a H
  have T2 := Blk.new w 93 (x.cells (.slice ad n c))
  have E2 := (Ext.refl w).al (.cells (x.cells (.slice ad n c)).toArray 93)
  obtain ⟨g2, hg2⟩ : ∃ g, g = w.heap.size := ⟨_, rfl⟩
  rw [← hg2] at H T2
  generalize w.alloc (.cells (x.cells (.slice ad n c)).toArray 93) = w2 at *
  refine e_op H rfl rfl (by decide) (x_assign H rfl rfl) ?_
  clear H a; intro a H
  refine e_nil (hR.out _ _ ?_)
  clear hR R
  refine hK1 _ _ ?_
  clear hK1 K1
  refine wp_seq_k (fun K2 hK2 => ?_)
  refine e_region (fun R hR => ?_)
  refine e_op H rfl rfl (by decide) (x_fieldAddr H rfl rfl (fa93_1 _ _)) ?_
  clear H a; intro a H
  refine e_op H rfl rfl (by decide) (x_load H rfl rfl (l_cell Try.isAgg3 (T2.at_ (i := 1) rfl))) ?_
  clear H a; intro a H
  refine e_op H rfl rfl (by decide) (x_move H rfl rfl) ?_
  clear H a; intro a H
  refine e_op H rfl rfl (by decide) (x_binI H rfl rfl rfl (b_eql (b := true) (h0))) ?_
  clear H a; intro a H
  refine e_op H rfl rfl (by decide) (x_move H rfl rfl) ?_
  clear H a; intro a H
  refine e_opg H (wanted_true H rfl rfl rfl rfl) rfl (by decide) (x_fieldAddr H rfl rfl (fa93_0 _ _)) ?_
  clear H a; intro a H
  refine e_opg H (wanted_true H rfl rfl rfl rfl) rfl (by decide) (x_load H rfl rfl (l_cell Try.isAgg3 (T2.at_ (i := 0) rfl))) ?_
  clear H a; intro a H
  refine e_callqg H (wanted_true H rfl rfl rfl rfl) rfl (by decide) rfl rfl (Try.call127 _) (within_is _ _ true h1 _) ?_
  clear H a
  rintro e w9 ⟨rfl, rfl⟩
  refine ⟨_, rfl, fun a H => ?_⟩
  refine e_op H rfl rfl (by decide) (x_pickT H rfl rfl rfl) ?_
  clear H a; intro a H
  refine e_op H rfl rfl (by decide) (x_move H rfl rfl) ?_
  clear H a; intro a H
  refine e_opg H (wanted_true H rfl rfl rfl rfl) rfl (by decide) (x_fieldAddr H rfl rfl (fa93_2 _ _)) ?_
  clear H a; intro a H
  refine e_opg H (wanted_true H rfl rfl rfl rfl) rfl (by decide) (x_load H rfl rfl (l_cell Try.isAgg90 (T2.at_ (i := 2) rfl))) ?_
  clear H a; intro a H
  refine e_opg H (wanted_true H rfl rfl rfl rfl) rfl (by decide) (x_binI H rfl rfl rfl (b_leq (b := true) (h2))) ?_
  clear H a; intro a H
  refine e_op H rfl rfl (by decide) (x_pickT H rfl rfl rfl) ?_
  clear H a; intro a H
  refine e_op H rfl rfl (by decide) (x_move H rfl rfl) ?_
  clear H a; intro a H
  refine e_opg H (wanted_true H rfl rfl rfl rfl) rfl (by decide) (x_fieldAddr H rfl rfl (fa93_2 _ _)) ?_
  clear H a; intro a H
  refine e_opg H (wanted_true H rfl rfl rfl rfl) rfl (by decide) (x_load H rfl rfl (l_cell Try.isAgg90 (T2.at_ (i := 2) rfl))) ?_
  clear H a; intro a H
  refine e_opg H (wanted_true H rfl rfl rfl rfl) rfl (by decide) (x_binI H rfl rfl rfl (b_leq (b := true) (h3))) ?_
  clear H a; intro a H
  refine e_op H rfl rfl (by decide) (x_pickT H rfl rfl rfl) ?_
  clear H a; intro a H
  refine e_op H rfl rfl (by decide) (x_move H rfl rfl) ?_
  clear H a; intro a H
  refine e_opg H (wanted_true H rfl rfl rfl rfl) rfl (by decide) (x_fieldAddr H rfl rfl (fa93_3 _ _)) ?_
  clear H a; intro a H
  refine e_opg H (wanted_true H rfl rfl rfl rfl) rfl (by decide) (x_load H rfl rfl (l_cell Try.isAgg3 (T2.at_ (i := 3) rfl))) ?_
  clear H a; intro a H
  refine e_callqg H (wanted_true H rfl rfl rfl rfl) rfl (by decide) rfl rfl (Try.call127 _) (within_is _ _ true h4 _) ?_
  clear H a
  rintro e w9 ⟨rfl, rfl⟩
  refine ⟨_, rfl, fun a H => ?_⟩
  refine e_op H rfl rfl (by decide) (x_pickT H rfl rfl rfl) ?_
  clear H a; intro a H
  refine e_op H rfl rfl (by decide) (x_move H rfl rfl) ?_
  clear H a; intro a H
  refine e_opg H (wanted_true H rfl rfl rfl rfl) rfl (by decide) (x_fieldAddr H rfl rfl (fa93_4 _ _)) ?_
  clear H a; intro a H
  refine e_opg H (wanted_true H rfl rfl rfl rfl) rfl (by decide) (x_load H rfl rfl (l_cell Try.isAgg3 (T2.at_ (i := 4) rfl))) ?_
  clear H a; intro a H
  refine e_callqg H (wanted_true H rfl rfl rfl rfl) rfl (by decide) rfl rfl (Try.call127 _) (within_is _ _ true h5 _) ?_
  clear H a
  rintro e w9 ⟨rfl, rfl⟩
  refine ⟨_, rfl, fun a H => ?_⟩
  refine e_op H rfl rfl (by decide) (x_pickT H rfl rfl rfl) ?_
  clear H a; intro a H
  refine e_op H rfl rfl (by decide) (x_move H rfl rfl) ?_
  clear H a; intro a H
  refine e_opg H (wanted_true H rfl rfl rfl rfl) rfl (by decide) (x_fieldAddr H rfl rfl (fa93_5 _ _)) ?_
  clear H a; intro a H
  refine e_opg H (wanted_true H rfl rfl rfl rfl) rfl (by decide) (x_load H rfl rfl (l_cell Try.isAgg3 (T2.at_ (i := 5) rfl))) ?_
  clear H a; intro a H
  refine e_callqg H (wanted_true H rfl rfl rfl rfl) rfl (by decide) rfl rfl (Try.call127 _) (within_is _ _ true h6 _) ?_
  clear H a
  rintro e w9 ⟨rfl, rfl⟩
  refine ⟨_, rfl, fun a H => ?_⟩
  refine e_op H rfl rfl (by decide) (x_pickT H rfl rfl rfl) ?_
  clear H a; intro a H
  refine e_op H rfl rfl (by decide) (x_move H rfl rfl) ?_
  clear H a; intro a H
  refine e_opg H (wanted_true H rfl rfl rfl rfl) rfl (by decide) (x_fieldAddr H rfl rfl (fa93_6 _ _)) ?_
  clear H a; intro a H
  refine e_opg H (wanted_true H rfl rfl rfl rfl) rfl (by decide) (x_load H rfl rfl (l_cell Try.isAgg3 (T2.at_ (i := 6) rfl))) ?_
  clear H a; intro a H
  refine e_callqg H (wanted_true H rfl rfl rfl rfl) rfl (by decide) rfl rfl (Try.call127 _) (within_is _ _ false h7 _) ?_
  clear H a
  rintro e w9 ⟨rfl, rfl⟩
  refine ⟨_, rfl, fun a H => ?_⟩
  refine e_op H rfl rfl (by decide) (x_pickT H rfl rfl rfl) ?_
  clear H a; intro a H
  refine e_op H rfl rfl (by decide) (x_move H rfl rfl) ?_
  clear H a; intro a H
  refine e_skip H (wanted_false H rfl rfl rfl rfl) rfl (by decide) ?_
  clear H a; intro a H
  refine e_skip H (wanted_false H rfl rfl rfl rfl) rfl (by decide) ?_
  clear H a; intro a H
  refine e_skip H (wanted_false H rfl rfl rfl rfl) rfl (by decide) ?_
  clear H a; intro a H
  refine e_skip H (wanted_false H rfl rfl rfl rfl) rfl (by decide) ?_
  clear H a; intro a H
  refine e_op H rfl rfl (by decide) (x_pickF H rfl rfl rfl) ?_
  clear H a; intro a H
  refine e_op H rfl rfl (by decide) (x_assign H rfl rfl) ?_
  clear H a; intro a H
  refine e_nil (hR.out _ _ ?_)
  clear hR R
  refine hK2 _ _ ?_
  clear hK2 K2
  refine wp_ret ?_
  exact ret1 H rfl rfl ⟨rfl, E2⟩
theorem cev8 (x : Evt) (era : Int) (ad : Option Addr) (n c : Nat) (w : World) (h0 : (x.comp == era) = true) (h1 : inN x.a 200 = true) (h2 : decide ((1 : Int) ≤ (x.kind : Int)) = true) (h3 : decide ((x.kind : Int) ≤ 11) = true) (h4 : inN x.c 8 = true) (h5 : inN x.d 2147483647 = true) (h6 : inN x.e 1 = true) (h7 : inN x.f 7 = true) (h8 : decide ((n : Int) ≤ 4) = false) :
    Calls Try.prog 125 #[.agg (x.cells (.slice ad n c)).toArray, .int .i64 era] w fun e w' => e = .returned (.bool false) ∧ Ext w w' := by
  refine calls_has (args := [.agg (x.cells (.slice ad n c)).toArray, .int .i64 era]) Try.func125 rfl Try.ntmps125 (Nat.le_of_ble_eq_true rfl) (fun a H => ?_)
  simp only [argl, Nat.reduceAdd] at H
  refine wp_seq_k (fun K1 hK1 => ?_)
  refine e_region (fun R hR => ?_)
  refine e_op H rfl rfl (by decide) (x_box H rfl rfl bx_new) ?_
  clear H a; intro a H
  have T2 := Blk.new w 93 (x.cells (.slice ad n c))
  have E2 := (Ext.refl w).al (.cells (x.cells (.slice ad n c)).toArray 93)
  obtain ⟨g2, hg2⟩ : ∃ g, g = w.heap.size := ⟨_, rfl⟩
  rw [← hg2] at H T2
  generalize w.alloc (.cells (x.cells (.slice ad n c)).toArray 93) = w2 at *
  refine e_op H rfl rfl (by decide) (x_assign H rfl rfl) ?_
  clear H a; intro a H
  refine e_nil (hR.out _ _ ?_)
  clear hR R
  refine hK1 _ _ ?_
  clear hK1 K1
  refine wp_seq_k (fun K2 hK2 => ?_)
  refine e_region (fun R hR => ?_)
  refine e_op H rfl rfl (by decide) (x_fieldAddr H rfl rfl (fa93_1 _ _)) ?_
  clear H a; intro a H
  refine e_op H rfl rfl (by decide) (x_load H rfl rfl (l_cell Try.isAgg3 (T2.at_ (i := 1) rfl))) ?_
  clear H a; intro a H
  refine e_op H rfl rfl (by decide) (x_move H rfl rfl) ?_
  clear H a; intro a H
  refine e_op H rfl rfl (by decide) (x_binI H rfl rfl rfl (b_eql (b := true) (h0))) ?_
  clear H a; intro a H
  refine e_op H rfl rfl (by decide) (x_move H rfl rfl) ?_
  clear H a; intro a H
  refine e_opg H (wanted_true H rfl rfl rfl rfl) rfl (by decide) (x_fieldAddr H rfl rfl (fa93_0 _ _)) ?_
  clear H a; intro a H
  refine e_opg H (wanted_true H rfl rfl rfl rfl) rfl (by decide) (x_load H rfl rfl (l_cell Try.isAgg3 (T2.at_ (i := 0) rfl))) ?_
  clear H a; intro a H
  refine e_callqg H (wanted_true H rfl rfl rfl rfl) rfl (by decide) rfl rfl (Try.call127 _) (within_is _ _ true h1 _) ?_
  clear H a
  rintro e w9 ⟨rfl, rfl⟩
  refine ⟨_, rfl, fun a H => ?_⟩
  refine e_op H rfl rfl (by decide) (x_pickT H rfl rfl rfl) ?_
  clear H a; intro a H
  refine e_op H rfl rfl (by decide) (x_move H rfl rfl) ?_
  clear H a; intro a H
  refine e_opg H (wanted_true H rfl rfl rfl rfl) rfl (by decide) (x_fieldAddr H rfl rfl (fa93_2 _ _)) ?_
  clear H a; intro a H
  refine e_opg H (wanted_true H rfl rfl rfl rfl) rfl (by decide) (x_load H rfl rfl (l_cell Try.isAgg90 (T2.at_ (i := 2) rfl))) ?_
  clear H a; intro a H
  refine e_opg H (wanted_true H rfl rfl rfl rfl) rfl (by decide) (x_binI H rfl rfl rfl (b_leq (b := true) (h2))) ?_
  clear H a; intro a H
  refine e_op H rfl rfl (by decide) (x_pickT H rfl rfl rfl) ?_
  clear H a; intro a H
  refine e_op H rfl rfl (by decide) (x_move H rfl rfl) ?_
  clear H a; intro a H
  refine e_opg H (wanted_true H rfl rfl rfl rfl) rfl (by decide) (x_fieldAddr H rfl rfl (fa93_2 _ _)) ?_
  clear H a; intro a H
  refine e_opg H (wanted_true H rfl rfl rfl rfl) rfl (by decide) (x_load H rfl rfl (l_cell Try.isAgg90 (T2.at_ (i := 2) rfl))) ?_
  clear H a; intro a H
  refine e_opg H (wanted_true H rfl rfl rfl rfl) rfl (by decide) (x_binI H rfl rfl rfl (b_leq (b := true) (h3))) ?_
  clear H a; intro a H
  refine e_op H rfl rfl (by decide) (x_pickT H rfl rfl rfl) ?_
  clear H a; intro a H
  refine e_op H rfl rfl (by decide) (x_move H rfl rfl) ?_
  clear H a; intro a H
  refine e_opg H (wanted_true H rfl rfl rfl rfl) rfl (by decide) (x_fieldAddr H rfl rfl (fa93_3 _ _)) ?_
  clear H a; intro a H
  refine e_opg H (wanted_true H rfl rfl rfl rfl) rfl (by decide) (x_load H rfl rfl (l_cell Try.isAgg3 (T2.at_ (i := 3) rfl))) ?_
  clear H a; intro a H
  refine e_callqg H (wanted_true H rfl rfl rfl rfl) rfl (by decide) rfl rfl (Try.call127 _) (within_is _ _ true h4 _) ?_
  clear H a
  rintro e w9 ⟨rfl, rfl⟩
  refine ⟨_, rfl, fun a H => ?_⟩
  refine e_op H rfl rfl (by decide) (x_pickT H rfl rfl rfl) ?_
  clear H a; intro a H
  refine e_op H rfl rfl (by decide) (x_move H rfl rfl) ?_
  clear H a; intro a H
  refine e_opg H (wanted_true H rfl rfl rfl rfl) rfl (by decide) (x_fieldAddr H rfl rfl (fa93_4 _ _)) ?_
  clear H a; intro a H
  refine e_opg H (wanted_true H rfl rfl rfl rfl) rfl (by decide) (x_load H rfl rfl (l_cell Try.isAgg3 (T2.at_ (i := 4) rfl))) ?_
  clear H a; intro a H
  refine e_callqg H (wanted_true H rfl rfl rfl rfl) rfl (by decide) rfl rfl (Try.call127 _) (within_is _ _ true h5 _) ?_
  clear H a
  rintro e w9 ⟨rfl, rfl⟩
  refine ⟨_, rfl, fun a H => ?_⟩
  refine e_op H rfl rfl (by decide) (x_pickT H rfl rfl rfl) ?_
  clear H a; intro a H
  refine e_op H rfl rfl (by decide) (x_move H rfl rfl) ?_
  clear H a; intro a H
  refine e_opg H (wanted_true H rfl rfl rfl rfl) rfl (by decide) (x_fieldAddr H rfl rfl (fa93_5 _ _)) ?_
  clear H a; intro a H
  refine e_opg H (wanted_true H rfl rfl rfl rfl) rfl (by decide) (x_load H rfl rfl (l_cell Try.isAgg3 (T2.at_ (i := 5) rfl))) ?_
  clear H a; intro a H
  refine e_callqg H (wanted_true H rfl rfl rfl rfl) rfl (by decide) rfl rfl (Try.call127 _) (within_is _ _ true h6 _) ?_
  clear H a
  rintro e w9 ⟨rfl, rfl⟩
  refine ⟨_, rfl, fun a H => ?_⟩
  refine e_op H rfl rfl (by decide) (x_pickT H rfl rfl rfl) ?_
  clear H a; intro a H
  refine e_op H rfl rfl (by decide) (x_move H rfl rfl) ?_
  clear H a; intro a H
  refine e_opg H (wanted_true H rfl rfl rfl rfl) rfl (by decide) (x_fieldAddr H rfl rfl (fa93_6 _ _)) ?_
  clear H a; intro a H
  refine e_opg H (wanted_true H rfl rfl rfl rfl) rfl (by decide) (x_load H rfl rfl (l_cell Try.isAgg3 (T2.at_ (i := 6) rfl))) ?_
  clear H a; intro a H
  refine e_callqg H (wanted_true H rfl rfl rfl rfl) rfl (by decide) rfl rfl (Try.call127 _) (within_is _ _ true h7 _) ?_
  clear H a
  rintro e w9 ⟨rfl, rfl⟩
  refine ⟨_, rfl, fun a H => ?_⟩
  refine e_op H rfl rfl (by decide) (x_pickT H rfl rfl rfl) ?_
  clear H a; intro a H
  refine e_op H rfl rfl (by decide) (x_move H rfl rfl) ?_
  clear H a; intro a H
  refine e_opg H (wanted_true H rfl rfl rfl rfl) rfl (by decide) (x_fieldAddr H rfl rfl (fa93_8 _ _)) ?_
  clear H a; intro a H
  refine e_opg H (wanted_true H rfl rfl rfl rfl) rfl (by decide) (x_load H rfl rfl (l_cell Try.isAgg91 (T2.at_ (i := 8) rfl))) ?_
  clear H a; intro a H
  refine e_opg H (wanted_true H rfl rfl rfl rfl) rfl (by decide) (x_builtin H rfl rfl (fun cs => len_sl under91)) ?_
  clear H a; intro a H
  refine e_opg H (wanted_true H rfl rfl rfl rfl) rfl (by decide) (x_binI H rfl rfl rfl (b_leq (b := false) (h8))) ?_
  clear H a; intro a H
  refine e_op H rfl rfl (by decide) (x_pickT H rfl rfl rfl) ?_
  clear H a; intro a H
  refine e_op H rfl rfl (by decide) (x_assign H rfl rfl) ?_
  clear H a; intro a H
  refine e_nil (hR.out _ _ ?_)
  clear hR R
  refine hK2 _ _ ?_
  clear hK2 K2
  refine wp_ret ?_
  exact ret1 H rfl rfl ⟨rfl, E2⟩
theorem cev9 (x : Evt) (era : Int) (ad : Option Addr) (n c : Nat) (w : World) (h0 : (x.comp == era) = true) (h1 : inN x.a 200 = true) (h2 : decide ((1 : Int) ≤ (x.kind : Int)) = true) (h3 : decide ((x.kind : Int) ≤ 11) = true) (h4 : inN x.c 8 = true) (h5 : inN x.d 2147483647 = true) (h6 : inN x.e 1 = true) (h7 : inN x.f 7 = true) (h8 : decide ((n : Int) ≤ 4) = true) :
    Calls Try.prog 125 #[.agg (x.cells (.slice ad n c)).toArray, .int .i64 era] w fun e w' => e = .returned (.bool true) ∧ Ext w w' := by
  refine calls_has (args := [.agg (x.cells (.slice ad n c)).toArray, .int .i64 era]) Try.func125 rfl Try.ntmps125 (Nat.le_of_ble_eq_true rfl) (fun a H => ?_)
  simp only [argl, Nat.reduceAdd] at H
  refine wp_seq_k (fun K1 hK1 => ?_)
  refine e_region (fun R hR => ?_)
  refine e_op H rfl rfl (by decide) (x_box H rfl rfl bx_new) ?_
  clear H a; intro a H
  have T2 := Blk.new w 93 (x.cells (.slice ad n c))
  have E2 := (Ext.refl w).al (.cells (x.cells (.slice ad n c)).toArray 93)
  obtain ⟨g2, hg2⟩ : ∃ g, g = w.heap.size := ⟨_, rfl⟩
  rw [← hg2] at H T2
  generalize w.alloc (.cells (x.cells (.slice ad n c)).toArray 93) = w2 at *
  refine e_op H rfl rfl (by decide) (x_assign H rfl rfl) ?_
  clear H a; intro a H
  refine e_nil (hR.out _ _ ?_)
  clear hR R
  refine hK1 _ _ ?_
  clear hK1 K1
  refine wp_seq_k (fun K2 hK2 => ?_)
  refine e_region (fun R hR => ?_)
  refine e_op H rfl rfl (by decide) (x_fieldAddr H rfl rfl (fa93_1 _ _)) ?_
  clear H a; intro a H
  refine e_op H rfl rfl (by decide) (x_load H rfl rfl (l_cell Try.isAgg3 (T2.at_ (i := 1) rfl))) ?_
  clear H a; intro a H
  refine e_op H rfl rfl (by decide) (x_move H rfl rfl) ?_
  clear H a; intro a H
  refine e_op H rfl rfl (by decide) (x_binI H rfl rfl rfl (b_eql (b := true) (h0))) ?_
  clear H a; intro a H
  refine e_op H rfl rfl (by decide) (x_move H rfl rfl) ?_
  clear H a; intro a H
  refine e_opg H (wanted_true H rfl rfl rfl rfl) rfl (by decide) (x_fieldAddr H rfl rfl (fa93_0 _ _)) ?_
  clear H a; intro a H
  refine e_opg H (wanted_true H rfl rfl rfl rfl) rfl (by decide) (x_load H rfl rfl (l_cell Try.isAgg3 (T2.at_ (i := 0) rfl))) ?_
  clear H a; intro a H
  refine e_callqg H (wanted_true H rfl rfl rfl rfl) rfl (by decide) rfl rfl (Try.call127 _) (within_is _ _ true h1 _) ?_
  clear H a
  rintro e w9 ⟨rfl, rfl⟩
  refine ⟨_, rfl, fun a H => ?_⟩
  refine e_op H rfl rfl (by decide) (x_pickT H rfl rfl rfl) ?_
  clear H a; intro a H
  refine e_op H rfl rfl (by decide) (x_move H rfl rfl) ?_
  clear H a; intro a H
  refine e_opg H (wanted_true H rfl rfl rfl rfl) rfl (by decide) (x_fieldAddr H rfl rfl (fa93_2 _ _)) ?_
  clear H a; intro a H
  refine e_opg H (wanted_true H rfl rfl rfl rfl) rfl (by decide) (x_load H rfl rfl (l_cell Try.isAgg90 (T2.at_ (i := 2) rfl))) ?_
  clear H a; intro a H
  refine e_opg H (wanted_true H rfl rfl rfl rfl) rfl (by decide) (x_binI H rfl rfl rfl (b_leq (b := true) (h2))) ?_
  clear H a; intro a H
  refine e_op H rfl rfl (by decide) (x_pickT H rfl rfl rfl) ?_
  clear H a; intro a H
  refine e_op H rfl rfl (by decide) (x_move H rfl rfl) ?_
  clear H a; intro a H
  refine e_opg H (wanted_true H rfl rfl rfl rfl) rfl (by decide) (x_fieldAddr H rfl rfl (fa93_2 _ _)) ?_
  clear H a; intro a H
  refine e_opg H (wanted_true H rfl rfl rfl rfl) rfl (by decide) (x_load H rfl rfl (l_cell Try.isAgg90 (T2.at_ (i := 2) rfl))) ?_
  clear H a; intro a H
  refine e_opg H (wanted_true H rfl rfl rfl rfl) rfl (by decide) (x_binI H rfl rfl rfl (b_leq (b := true) (h3))) ?_
  clear H a; intro a H
  refine e_op H rfl rfl (by decide) (x_pickT H rfl rfl rfl) ?_
  clear H a; intro a H
  refine e_op H rfl rfl (by decide) (x_move H rfl rfl) ?_
  clear H a; intro a H
  refine e_opg H (wanted_true H rfl rfl rfl rfl) rfl (by decide) (x_fieldAddr H rfl rfl (fa93_3 _ _)) ?_
  clear H a; intro a H
  refine e_opg H (wanted_true H rfl rfl rfl rfl) rfl (by decide) (x_load H rfl rfl (l_cell Try.isAgg3 (T2.at_ (i := 3) rfl))) ?_
  clear H a; intro a H
  refine e_callqg H (wanted_true H rfl rfl rfl rfl) rfl (by decide) rfl rfl (Try.call127 _) (within_is _ _ true h4 _) ?_
  clear H a
  rintro e w9 ⟨rfl, rfl⟩
  refine ⟨_, rfl, fun a H => ?_⟩
  refine e_op H rfl rfl (by decide) (x_pickT H rfl rfl rfl) ?_
  clear H a; intro a H
  refine e_op H rfl rfl (by decide) (x_move H rfl rfl) ?_
  clear H a; intro a H
  refine e_opg H (wanted_true H rfl rfl rfl rfl) rfl (by decide) (x_fieldAddr H rfl rfl (fa93_4 _ _)) ?_
  clear H a; intro a H
  refine e_opg H (wanted_true H rfl rfl rfl rfl) rfl (by decide) (x_load H rfl rfl (l_cell Try.isAgg3 (T2.at_ (i := 4) rfl))) ?_
  clear H a; intro a H
  refine e_callqg H (wanted_true H rfl rfl rfl rfl) rfl (by decide) rfl rfl (Try.call127 _) (within_is _ _ true h5 _) ?_
  clear H a
  rintro e w9 ⟨rfl, rfl⟩
  refine ⟨_, rfl, fun a H => ?_⟩
  refine e_op H rfl rfl (by decide) (x_pickT H rfl rfl rfl) ?_
  clear H a; intro a H
  refine e_op H rfl rfl (by decide) (x_move H rfl rfl) ?_
  clear H a; intro a H
  refine e_opg H (wanted_true H rfl rfl rfl rfl) rfl (by decide) (x_fieldAddr H rfl rfl (fa93_5 _ _)) ?_
  clear H a; intro a H
  refine e_opg H (wanted_true H rfl rfl rfl rfl) rfl (by decide) (x_load H rfl rfl (l_cell Try.isAgg3 (T2.at_ (i := 5) rfl))) ?_
  clear H a; intro a H
  refine e_callqg H (wanted_true H rfl rfl rfl rfl) rfl (by decide) rfl rfl (Try.call127 _) (within_is _ _ true h6 _) ?_
  clear H a
  rintro e w9 ⟨rfl, rfl⟩
  refine ⟨_, rfl, fun a H => ?_⟩
  refine e_op H rfl rfl (by decide) (x_pickT H rfl rfl rfl) ?_
  clear H a; intro a H
  refine e_op H rfl rfl (by decide) (x_move H rfl rfl) ?_
  clear H a; intro a H
  refine e_opg H (wanted_true H rfl rfl rfl rfl) rfl (by decide) (x_fieldAddr H rfl rfl (fa93_6 _ _)) ?_
  clear H a; intro a H
  refine e_opg H (wanted_true H rfl rfl rfl rfl) rfl (by decide) (x_load H rfl rfl (l_cell Try.isAgg3 (T2.at_ (i := 6) rfl))) ?_
  clear H a; intro a H
  refine e_callqg H (wanted_true H rfl rfl rfl rfl) rfl (by decide) rfl rfl (Try.call127 _) (within_is _ _ true h7 _) ?_
  clear H a
  rintro e w9 ⟨rfl, rfl⟩
  refine ⟨_, rfl, fun a H => ?_⟩
  refine e_op H rfl rfl (by decide) (x_pickT H rfl rfl rfl) ?_
  clear H a; intro a H
  refine e_op H rfl rfl (by decide) (x_move H rfl rfl) ?_
  clear H a; intro a H
  refine e_opg H (wanted_true H rfl rfl rfl rfl) rfl (by decide) (x_fieldAddr H rfl rfl (fa93_8 _ _)) ?_
  clear H a; intro a H
  refine e_opg H (wanted_true H rfl rfl rfl rfl) rfl (by decide) (x_load H rfl rfl (l_cell Try.isAgg91 (T2.at_ (i := 8) rfl))) ?_
  clear H a; intro a H
  refine e_opg H (wanted_true H rfl rfl rfl rfl) rfl (by decide) (x_builtin H rfl rfl (fun cs => len_sl under91)) ?_
  clear H a; intro a H
  refine e_opg H (wanted_true H rfl rfl rfl rfl) rfl (by decide) (x_binI H rfl rfl rfl (b_leq (b := true) (h8))) ?_
  clear H a; intro a H
  refine e_op H rfl rfl (by decide) (x_pickT H rfl rfl rfl) ?_
  clear H a; intro a H
  refine e_op H rfl rfl (by decide) (x_assign H rfl rfl) ?_
  clear H a; intro a H
  refine e_nil (hR.out _ _ ?_)
  clear hR R
  refine hK2 _ _ ?_
  clear hK2 K2
  refine wp_ret ?_
  exact ret1 H rfl rfl ⟨rfl, E2⟩
theorem checkEvent_any (x : Evt) (era : Int) (v : Value) (w : World) (hz : Zl w v x.args) :
    Calls Try.prog 125 #[.agg (x.cells v).toArray, .int .i64 era] w fun e w' => e = .returned (.bool (x.good era)) ∧ Ext w w' := by
  obtain ⟨ad, n, c, rfl, hzs, _⟩ := hz
  have hl := hzs.leng
  have e2 : decide (1 ≤ x.kind) = decide ((1 : Int) ≤ (x.kind : Int)) := decide_eq_decide.2 (by omega)
  have e3 : decide (x.kind ≤ 11) = decide ((x.kind : Int) ≤ 11) := decide_eq_decide.2 (by omega)
  have e8 : decide (x.args.length ≤ 4) = decide ((n : Int) ≤ 4) := decide_eq_decide.2 (by omega)
  unfold Evt.good
  rw [e2, e3, e8]
  cases h0 : (x.comp == era) with
  | false => simpa only [Bool.and_false, Bool.false_and, Bool.true_and] using cev0 x era ad n c w h0
  | true =>
  cases h1 : inN x.a 200 with
  | false => simpa only [Bool.and_false, Bool.false_and, Bool.true_and] using cev1 x era ad n c w h0 h1
  | true =>
  cases h2 : decide ((1 : Int) ≤ (x.kind : Int)) with
  | false => simpa only [Bool.and_false, Bool.false_and, Bool.true_and] using cev2 x era ad n c w h0 h1 h2
  | true =>
  cases h3 : decide ((x.kind : Int) ≤ 11) with
  | false => simpa only [Bool.and_false, Bool.false_and, Bool.true_and] using cev3 x era ad n c w h0 h1 h2 h3
  | true =>
  cases h4 : inN x.c 8 with
  | false => simpa only [Bool.and_false, Bool.false_and, Bool.true_and] using cev4 x era ad n c w h0 h1 h2 h3 h4
  | true =>
  cases h5 : inN x.d 2147483647 with
  | false => simpa only [Bool.and_false, Bool.false_and, Bool.true_and] using cev5 x era ad n c w h0 h1 h2 h3 h4 h5
  | true =>
  cases h6 : inN x.e 1 with
  | false => simpa only [Bool.and_false, Bool.false_and, Bool.true_and] using cev6 x era ad n c w h0 h1 h2 h3 h4 h5 h6
  | true =>
  cases h7 : inN x.f 7 with
  | false => simpa only [Bool.and_false, Bool.false_and, Bool.true_and] using cev7 x era ad n c w h0 h1 h2 h3 h4 h5 h6 h7
  | true =>
  cases h8 : decide ((n : Int) ≤ 4) with
  | false => simpa only [Bool.and_false, Bool.false_and, Bool.true_and] using cev8 x era ad n c w h0 h1 h2 h3 h4 h5 h6 h7 h8
  | true =>
  simpa only [Bool.true_and, Bool.and_self] using cev9 x era ad n c w h0 h1 h2 h3 h4 h5 h6 h7 h8
end Go.Proofs.Ytknllmcpogoeoaa
