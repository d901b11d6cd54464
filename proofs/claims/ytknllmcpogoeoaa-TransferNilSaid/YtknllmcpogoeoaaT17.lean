/- TransferNil, walked. -/
import Derived.Test.YtknllmcpogoeoaaT16
namespace Go.Proofs.Ytknllmcpogoeoaa
open Go.RowKit
set_option linter.unusedVariables false
set_option linter.unusedSimpArgs false
set_option maxRecDepth 100000
theorem transferNil_any (v : Value) (w0 : World) : Calls Try.prog 13 #[v] w0 fun e w' => e = .returned (.bool true) ∧ Ext w0 w' := by
  refine calls_has (args := [v]) Try.func13 rfl Try.ntmps13 (Nat.le_of_ble_eq_true rfl) (fun a H => ?_)
  simp only [argl, Nat.reduceAdd] at H
  refine wp_seq_k (fun K1 hK1 => ?_)
  refine e_region (fun R hR => ?_)
  refine e_op H rfl rfl (by decide) (x_assign H rfl rfl) ?_
  clear H a; intro a H
  refine e_nil (hR.out _ _ ?_)
  clear hR R
  refine hK1 _ _ ?_
  clear hK1 K1
  refine wp_seq_k (fun K2 hK2 => ?_)
  refine e_region (fun R hR => ?_)
  refine e_op H rfl rfl (by decide) (x_assign H rfl rfl) ?_
  clear H a; intro a H
  refine e_nil (hR.out _ _ ?_)
  clear hR R
  refine hK2 _ _ ?_
  clear hK2 K2
  refine wp_seq_k (fun K3 hK3 => ?_)
  refine e_region (fun R hR => ?_)
  refine e_op H rfl rfl (by decide) (x_assign H rfl rfl) ?_
  clear H a; intro a H
  refine e_nil (hR.out _ _ ?_)
  clear hR R
  refine hK3 _ _ ?_
  clear hK3 K3
  refine wp_seq_k (fun K4 hK4 => ?_)
  refine e_region (fun R hR => ?_)
  refine e_op H rfl rfl (by decide) (x_move H rfl rfl) ?_
  clear H a; intro a H
  refine e_callq H rfl rfl (by decide) rfl rfl (Try.call50 _) (file_nil w0) ?_
  clear H a
  rintro e w1 ⟨rfl, E1⟩
  refine ⟨_, rfl, fun a H => ?_⟩
  refine e_op H rfl rfl (by decide) (x_move H rfl rfl) ?_
  clear H a; intro a H
  refine e_op H rfl rfl (by decide) (x_extract H rfl rfl (v := .slice none 0 0) rfl) ?_
  clear H a; intro a H
  refine e_op H rfl rfl (by decide) (x_extract H rfl rfl (v := .bool false) rfl) ?_
  clear H a; intro a H
  refine e_op H rfl rfl (by decide) (x_assign H rfl rfl) ?_
  clear H a; intro a H
  refine e_op H rfl rfl (by decide) (x_assign H rfl rfl) ?_
  clear H a; intro a H
  refine e_nil (hR.out _ _ ?_)
  clear hR R
  refine hK4 _ _ ?_
  clear hK4 K4
  refine wp_seq_k (fun K5 hK5 => ?_)
  refine e_region (fun R hR => ?_)
  refine e_callq H rfl rfl (by decide) rfl rfl (Try.call51 _) (awake_any w1) ?_
  clear H a
  rintro e w2 ⟨rfl, E2⟩
  refine ⟨_, rfl, fun a H => ?_⟩
  refine e_op H rfl rfl (by decide) (x_move H rfl rfl) ?_
  clear H a; intro a H
  refine e_opg H (wanted_true H rfl rfl rfl rfl) rfl (by decide) (x_move H rfl rfl) ?_
  clear H a; intro a H
  refine e_callqg H (wanted_true H rfl rfl rfl rfl) rfl (by decide) rfl rfl (Try.call52 _) (out_nil w2) ?_
  clear H a
  rintro e wn ⟨rfl, hwn⟩
  rw [hwn]
  refine ⟨_, rfl, fun a H => ?_⟩
  refine e_opg H (wanted_true H rfl rfl rfl rfl) rfl (by decide) (x_builtin H rfl rfl (fun cs => len_sl Try.underlying37)) ?_
  clear H a; intro a H
  refine e_opg H (wanted_true H rfl rfl rfl rfl) rfl (by decide) (x_binI H rfl rfl rfl (b_eql (b := true) (rfl))) ?_
  clear H a; intro a H
  refine e_op H rfl rfl (by decide) (x_pickT H rfl rfl rfl) ?_
  clear H a; intro a H
  refine e_op H rfl rfl (by decide) (x_move H rfl rfl) ?_
  clear H a; intro a H
  refine e_opg H (wanted_true H rfl rfl rfl rfl) rfl (by decide) (x_move H rfl rfl) ?_
  clear H a; intro a H
  refine e_opg H (wanted_true H rfl rfl rfl rfl) rfl (by decide) (x_move H rfl rfl) ?_
  clear H a; intro a H
  refine e_callqg H (wanted_true H rfl rfl rfl rfl) rfl (by decide) rfl rfl (Try.call53 _) (sack_nil _ w2) ?_
  clear H a
  rintro e wn ⟨rfl, hwn⟩
  rw [hwn]
  refine ⟨_, rfl, fun a H => ?_⟩
  refine e_opg H (wanted_true H rfl rfl rfl rfl) rfl (by decide) (x_binI H rfl rfl rfl (b_eql (b := true) (rfl))) ?_
  clear H a; intro a H
  refine e_op H rfl rfl (by decide) (x_pickT H rfl rfl rfl) ?_
  clear H a; intro a H
  refine e_op H rfl rfl (by decide) (x_move H rfl rfl) ?_
  clear H a; intro a H
  refine e_opg H (wanted_true H rfl rfl rfl rfl) rfl (by decide) (x_move H rfl rfl) ?_
  clear H a; intro a H
  refine e_callqg H (wanted_true H rfl rfl rfl rfl) rfl (by decide) rfl rfl (Try.call54 _) (done_nil w2) ?_
  clear H a
  rintro e wn ⟨rfl, hwn⟩
  rw [hwn]
  refine ⟨_, rfl, fun a H => ?_⟩
  refine e_opg H (wanted_true H rfl rfl rfl rfl) rfl (by decide) (x_un H rfl rfl (u_not (c := true) (rfl))) ?_
  clear H a; intro a H
  refine e_op H rfl rfl (by decide) (x_pickT H rfl rfl rfl) ?_
  clear H a; intro a H
  refine e_op H rfl rfl (by decide) (x_move H rfl rfl) ?_
  clear H a; intro a H
  refine e_opg H (wanted_true H rfl rfl rfl rfl) rfl (by decide) (x_move H rfl rfl) ?_
  clear H a; intro a H
  refine e_callqg H (wanted_true H rfl rfl rfl rfl) rfl (by decide) rfl rfl (Try.call55 _) (left_nil w2) ?_
  clear H a
  rintro e wn ⟨rfl, hwn⟩
  rw [hwn]
  refine ⟨_, rfl, fun a H => ?_⟩
  refine e_opg H (wanted_true H rfl rfl rfl rfl) rfl (by decide) (x_binI H rfl rfl rfl (b_eql (b := true) (rfl))) ?_
  clear H a; intro a H
  refine e_op H rfl rfl (by decide) (x_pickT H rfl rfl rfl) ?_
  clear H a; intro a H
  refine e_op H rfl rfl (by decide) (x_move H rfl rfl) ?_
  clear H a; intro a H
  refine e_opg H (wanted_true H rfl rfl rfl rfl) rfl (by decide) (x_move H rfl rfl) ?_
  clear H a; intro a H
  refine e_opg H (wanted_true H rfl rfl rfl rfl) rfl (by decide) (x_move H rfl rfl) ?_
  clear H a; intro a H
  refine e_callqg H (wanted_true H rfl rfl rfl rfl) rfl (by decide) rfl rfl (Try.call56 _) (in_nil _ w2) ?_
  clear H a
  rintro e wn ⟨rfl, hwn⟩
  rw [hwn]
  refine ⟨_, rfl, fun a H => ?_⟩
  refine e_opg H (wanted_true H rfl rfl rfl rfl) rfl (by decide) (x_binI H rfl rfl rfl (b_eql (b := true) (rfl))) ?_
  clear H a; intro a H
  refine e_op H rfl rfl (by decide) (x_pickT H rfl rfl rfl) ?_
  clear H a; intro a H
  refine e_op H rfl rfl (by decide) (x_move H rfl rfl) ?_
  clear H a; intro a H
  refine e_opg H (wanted_true H rfl rfl rfl rfl) rfl (by decide) (x_move H rfl rfl) ?_
  clear H a; intro a H
  refine e_callqg H (wanted_true H rfl rfl rfl rfl) rfl (by decide) rfl rfl (Try.call57 _) (ack_nil w2) ?_
  clear H a
  rintro e wn ⟨rfl, hwn⟩
  rw [hwn]
  refine ⟨_, rfl, fun a H => ?_⟩
  refine e_opg H (wanted_true H rfl rfl rfl rfl) rfl (by decide) (x_builtin H rfl rfl (fun cs => len_sl Try.underlying22)) ?_
  clear H a; intro a H
  refine e_opg H (wanted_true H rfl rfl rfl rfl) rfl (by decide) (x_binI H rfl rfl rfl (b_eql (b := true) (rfl))) ?_
  clear H a; intro a H
  refine e_op H rfl rfl (by decide) (x_pickT H rfl rfl rfl) ?_
  clear H a; intro a H
  refine e_op H rfl rfl (by decide) (x_move H rfl rfl) ?_
  clear H a; intro a H
  refine e_opg H (wanted_true H rfl rfl rfl rfl) rfl (by decide) (x_move H rfl rfl) ?_
  clear H a; intro a H
  refine e_opg H (wanted_true H rfl rfl rfl rfl) rfl (by decide) (x_un H rfl rfl (u_not (c := true) (rfl))) ?_
  clear H a; intro a H
  refine e_op H rfl rfl (by decide) (x_pickT H rfl rfl rfl) ?_
  clear H a; intro a H
  refine e_op H rfl rfl (by decide) (x_move H rfl rfl) ?_
  clear H a; intro a H
  refine e_opg H (wanted_true H rfl rfl rfl rfl) rfl (by decide) (x_move H rfl rfl) ?_
  clear H a; intro a H
  refine e_opg H (wanted_true H rfl rfl rfl rfl) rfl (by decide) (x_builtin H rfl rfl (fun cs => len_sl Try.underlying22)) ?_
  clear H a; intro a H
  refine e_opg H (wanted_true H rfl rfl rfl rfl) rfl (by decide) (x_move H rfl rfl) ?_
  clear H a; intro a H
  refine e_callqg H (wanted_true H rfl rfl rfl rfl) rfl (by decide) rfl rfl (Try.call58 _) (prefix_nil w2) ?_
  clear H a
  rintro e wn ⟨rfl, hwn⟩
  rw [hwn]
  refine ⟨_, rfl, fun a H => ?_⟩
  refine e_opg H (wanted_true H rfl rfl rfl rfl) rfl (by decide) (x_builtin H rfl rfl (fun cs => len_sl Try.underlying22)) ?_
  clear H a; intro a H
  refine e_opg H (wanted_true H rfl rfl rfl rfl) rfl (by decide) (x_binI H rfl rfl rfl (b_add (z := 0) (rfl))) ?_
  clear H a; intro a H
  refine e_opg H (wanted_true H rfl rfl rfl rfl) rfl (by decide) (x_binI H rfl rfl rfl (b_eql (b := true) (rfl))) ?_
  clear H a; intro a H
  refine e_op H rfl rfl (by decide) (x_pickT H rfl rfl rfl) ?_
  clear H a; intro a H
  refine e_op H rfl rfl (by decide) (x_assign H rfl rfl) ?_
  clear H a; intro a H
  refine e_nil (hR.out _ _ ?_)
  clear hR R
  refine hK5 _ _ ?_
  clear hK5 K5
  refine wp_ret ?_
  exact ret1 H rfl rfl ⟨rfl, E1.tr E2⟩
end Go.Proofs.Ytknllmcpogoeoaa
