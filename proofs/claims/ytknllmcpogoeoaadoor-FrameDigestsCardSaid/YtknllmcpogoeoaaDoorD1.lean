/- Rotation, the eight bytes of a number, walked. -/
import Derived.Test.YtknllmcpogoeoaaDoorEng2
import Derived.Test.YtknllmcpogoeoaaDoorWd
namespace Go.Proofs.YtknllmcpogoeoaaDoor
open Go.RowKit
set_option linter.unusedVariables false
set_option linter.unusedSimpArgs false
theorem rotl_any (x : BitVec 32) (m : Nat) (w : World) (h1 : 0 < m) (h2 : m < 32) : Calls Tryd.prog 60 #[.int .u32 (wn x), .int .i64 (IntKind.i64.wrap (0 - (m : Int)))] w fun e w' => e = .returned (.int .u32 (wn (rr x m))) ∧ w' = w := by
  refine calls_has (args := [.int .u32 (wn x), .int .i64 (IntKind.i64.wrap (0 - (m : Int)))]) Tryd.func60 rfl Tryd.ntmps60 (Nat.le_of_ble_eq_true rfl) (fun a H => ?_)
  simp only [argl, Nat.reduceAdd] at H
  refine wp_seq_k (fun K1 hK1 => ?_)
  refine e_region (fun R hR => ?_)
  refine e_op H rfl rfl (by decide) (x_assign H rfl rfl) ?_
  clear H a; intro a H
  refine e_nil (hR.out _ _ ?_)
  clear hR R
  refine hK1 _ _ ?_
  clear hK1 K1
  refine wp_seq_k (fun K2 hK2 => ?_)
  refine e_region (fun R hR => ?_)
  refine e_op H rfl rfl (by decide) (x_move H rfl rfl) ?_
  clear H a; intro a H
  refine e_op H rfl rfl (by decide) (x_conv H rfl rfl (c_int (z := IntKind.u64.wrap (0 - (m : Int))) Tryd.underlying3 Tryd.underlying76 (by rw [IntKind.wrap_i64, IntKind.wrap_u64, IntKind.wrap_u64]; omega))) ?_
  clear H a; intro a H
  refine e_op H rfl rfl (by decide) (x_binI H rfl rfl rfl (b_and (z := 32 - (m : Int)) (rot_cnt ⟨m, h2⟩ h1))) ?_
  clear H a; intro a H
  refine e_op H rfl rfl (by decide) (x_assign H rfl rfl) ?_
  clear H a; intro a H
  refine e_nil (hR.out _ _ ?_)
  clear hR R
  refine hK2 _ _ ?_
  clear hK2 K2
  refine wp_seq_k (fun K3 hK3 => ?_)
  refine e_region (fun R hR => ?_)
  refine e_op H rfl rfl (by decide) (x_move H rfl rfl) ?_
  clear H a; intro a H
  refine e_op H rfl rfl (by decide) (x_move H rfl rfl) ?_
  clear H a; intro a H
  refine e_op H rfl rfl (by decide) (x_binI H rfl rfl rfl (b_shl (z := wn (x <<< (32 - m))) (by omega) (by rw [min_b32 (32 - m) (by omega) (by omega)]; exact shl_wn x _))) ?_
  clear H a; intro a H
  refine e_op H rfl rfl (by decide) (x_move H rfl rfl) ?_
  clear H a; intro a H
  refine e_op H rfl rfl (by decide) (x_move H rfl rfl) ?_
  clear H a; intro a H
  refine e_op H rfl rfl (by decide) (x_binI H rfl rfl rfl (b_sub (z := (m : Int)) (by rw [show (32 : Int) - (32 - (m : Int)) = m by omega]; exact wrap_u64_small _ (by omega) (by omega)))) ?_
  clear H a; intro a H
  refine e_op H rfl rfl (by decide) (x_binI H rfl rfl rfl (b_shr (z := wn (x >>> m)) (by omega) (by rw [min_b32 m rfl (by omega)]; exact shr_wn x m))) ?_
  clear H a; intro a H
  refine e_op H rfl rfl (by decide) (x_binI H rfl rfl rfl (b_or (z := wn (rr x m)) (rot_wn x m))) ?_
  clear H a; intro a H
  refine e_op H rfl rfl (by decide) (x_assign H rfl rfl) ?_
  clear H a; intro a H
  refine e_nil (hR.out _ _ ?_)
  clear hR R
  refine hK3 _ _ ?_
  clear hK3 K3
  refine wp_ret ?_
  exact ret1 H rfl rfl ⟨rfl, rfl⟩
theorem rotr_any (x : BitVec 32) (m : Nat) (w : World) (h1 : 0 < m) (h2 : m < 32) : Calls Tryd.prog 53 #[.int .u32 (wn x), .int .i64 (m : Int)] w fun e w' => e = .returned (.int .u32 (wn (rr x m))) ∧ w' = w := by
  refine calls_has (args := [.int .u32 (wn x), .int .i64 (m : Int)]) Tryd.func53 rfl Tryd.ntmps53 (Nat.le_of_ble_eq_true rfl) (fun a H => ?_)
  simp only [argl, Nat.reduceAdd] at H
  refine wp_seq_k (fun K1 hK1 => ?_)
  refine e_region (fun R hR => ?_)
  refine e_op H rfl rfl (by decide) (x_assign H rfl rfl) ?_
  clear H a; intro a H
  refine e_nil (hR.out _ _ ?_)
  clear hR R
  refine hK1 _ _ ?_
  clear hK1 K1
  refine wp_seq_k (fun K2 hK2 => ?_)
  refine e_region (fun R hR => ?_)
  refine e_op H rfl rfl (by decide) (x_move H rfl rfl) ?_
  clear H a; intro a H
  refine e_op H rfl rfl (by decide) (x_move H rfl rfl) ?_
  clear H a; intro a H
  refine e_op H rfl rfl (by decide) (x_un H rfl rfl (u_neg (z := IntKind.i64.wrap (0 - (m : Int))) (rfl))) ?_
  clear H a; intro a H
  refine e_callp H rfl rfl (by decide) rfl rfl (Tryd.call60 _) (rotl_any x m _ h1 h2) ?_
  clear H a; intro a H
  refine e_op H rfl rfl (by decide) (x_assign H rfl rfl) ?_
  clear H a; intro a H
  refine e_nil (hR.out _ _ ?_)
  clear hR R
  refine hK2 _ _ ?_
  clear hK2 K2
  refine wp_ret ?_
  exact ret1 H rfl rfl ⟨rfl, rfl⟩
end Go.Proofs.YtknllmcpogoeoaaDoor
