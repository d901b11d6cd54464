/- eight, New, Len, Copy, walked. -/
import Derived.Test.YtknllmcpogoeoaaDoorHs3
import Derived.Test.YtknllmcpogoeoaaDoorD3
namespace Go.Proofs.YtknllmcpogoeoaaDoor
open Go.RowKit
set_option linter.unusedVariables false
set_option linter.unusedSimpArgs false
set_option maxRecDepth 100000
theorem size_hsh {w : World} {g : Nat} {ws : List (BitVec 32)} {bs : List UInt8} {n : Nat} (h : Hsh w g ws bs n) : (u32s ws ++ u8s bs ++ [Value.int .u64 (n : Int)]).toArray.size = 73 := by
  simp [u32s_len, u8s_len, h.l8, h.l64]
theorem one_hsh (ws : List (BitVec 32)) (bs : List UInt8) (n : Nat) : (u32s ws ++ u8s bs ++ [Value.int .u64 (n : Int)]).toArray.all (·.oneCell') = true := by
  rw [Array.all_eq_true_iff_forall_mem]
  intro v hv
  simp only [List.mem_toArray, List.mem_append, List.mem_singleton] at hv
  rcases hv with (hv | hv) | rfl
  · exact u32s_one _ v hv
  · exact u8s_one _ v hv
  · rfl
theorem eight_any (x : Nat) (w0 : World) (hx : x < 18446744073709551616) :
    Calls Tryd.prog 44 #[.int .u64 (x : Int)] w0 fun e w' => ∃ g, e = .returned (.slice (some ⟨g, 0, none⟩) 8 8) ∧ Blk w' g 5 (u8s (be8 x)) ∧ w0.heap.size ≤ g ∧ Ext w0 w' := by
  refine calls_has (args := [.int .u64 (x : Int)]) Tryd.func44 rfl Tryd.ntmps44 (Nat.le_of_ble_eq_true rfl) (fun a H => ?_)
  simp only [argl, Nat.reduceAdd] at H
  refine wp_seq_k (fun K1 hK1 => ?_)
  refine e_region (fun R hR => ?_)
  refine e_op H rfl rfl (by decide) (x_assign H rfl rfl) ?_
  clear H a; intro a H
  refine e_nil (hR.out _ _ ?_)
  clear hR R
  refine hK1 _ _ ?_
  clear hK1 K1
  refine wp_seq_k (fun K2 hK2 => ?_)
  refine e_region (fun R hR => ?_)
  refine e_op H rfl rfl (by decide) (x_makeSlice H rfl rfl rfl (mk_u8 (n := 8) (c := 8) rfl rfl (by omega) (by omega))) ?_
  clear H a; intro a H
  have B1 := Blk.new w0 5 (u8s (List.replicate 8 0))
  have E1 := (Ext.refl w0).al (.cells (u8s (List.replicate 8 0)).toArray 5)
  obtain ⟨g, hg⟩ : ∃ g, g = w0.heap.size := ⟨_, rfl⟩
  rw [← hg] at H B1
  generalize w0.alloc (.cells (u8s (List.replicate 8 0)).toArray 5) = w at *
  refine e_op H rfl rfl (by decide) (x_assign H rfl rfl) ?_
  clear H a; intro a H
  refine e_nil (hR.out _ _ ?_)
  clear hR R
  refine hK2 _ _ ?_
  clear hK2 K2
  refine wp_seq_k (fun K3 hK3 => ?_)
  refine wp_seq_k (fun K4 hK4 => ?_)
  refine e_region (fun R hR => ?_)
  refine e_op H rfl rfl (by decide) (x_move H rfl rfl) ?_
  clear H a; intro a H
  refine e_op H rfl rfl (by decide) (x_builtin H rfl rfl (fun cs => len_sl Tryd.underlying22)) ?_
  clear H a; intro a H
  refine e_op H rfl rfl (by decide) (x_move H rfl rfl) ?_
  clear H a; intro a H
  refine e_nil (hR.out _ _ ?_)
  clear hR R
  refine hK4 _ _ ?_
  clear hK4 K4
  refine wp_block ?_
  refine wp_loop_ghost (fun n a w => ∃ i : Nat, i ≤ 8 ∧ n = 8 - i ∧ Has a 22 [(0, .int .u64 (x : Int)), (3, .slice (some ⟨g, 0, none⟩) 8 8), (7, .int .i64 ((8 : Nat) : Int)), (8, .int .i64 (i : Int))] ∧ Blk w g 5 (u8s ((List.range i).map (fun i => UInt8.ofNat (x / 2 ^ (56 - 8 * i))) ++ List.replicate (8 - i) 0)) ∧ Ext w0 w) (8) ?_ ?_
  · skip
    exact ⟨0, by omega, rfl, H.sub ⟨rfl, rfl, rfl, rfl, trivial⟩, B1, E1⟩
  · skip
    clear B1 E1 H a w
    intro n a w hI
    obtain ⟨i, hi, rfl, H, B1, E1⟩ := hI
    rcases Nat.lt_or_ge i 8 with hlt | hge
    · skip
      skip
      refine wp_seq_k (fun K5 hK5 => ?_)
      refine e_region (fun R hR => ?_)
      refine e_op H rfl rfl (by decide) (x_binI H rfl rfl rfl (b_lss (b := true) (dec_t (by omega)))) ?_
      clear H a; intro a H
      refine e_nil (hR.out _ _ ?_)
      clear hR R
      refine hK5 _ _ ?_
      clear hK5 K5
      refine wp_seq_k (fun K6 hK6 => ?_)
      refine c_true H rfl ?_
      refine wp_skip ?_
      refine hK6 _ _ ?_
      clear hK6 K6
      refine wp_seq_k (fun K7 hK7 => ?_)
      refine wp_block ?_
      refine wp_seq_k (fun K8 hK8 => ?_)
      refine e_region (fun R hR => ?_)
      refine e_op H rfl rfl (by decide) (x_move H rfl rfl) ?_
      clear H a; intro a H
      refine e_op H rfl rfl (by decide) (x_assign H rfl rfl) ?_
      clear H a; intro a H
      refine e_nil (hR.out _ _ ?_)
      clear hR R
      refine hK8 _ _ ?_
      clear hK8 K8
      refine e_region (fun R hR => ?_)
      refine e_op H rfl rfl (by decide) (x_move H rfl rfl) ?_
      clear H a; intro a H
      refine e_op H rfl rfl (by decide) (x_move H rfl rfl) ?_
      clear H a; intro a H
      refine e_op H rfl rfl (by decide) (x_move H rfl rfl) ?_
      clear H a; intro a H
      refine e_op H rfl rfl (by decide) (x_move H rfl rfl) ?_
      clear H a; intro a H
      refine e_op H rfl rfl (by decide) (x_binI H rfl rfl rfl (b_mul (z := ((8 * i : Nat) : Int)) (by rw [IntKind.wrap_i64]; omega))) ?_
      clear H a; intro a H
      refine e_op H rfl rfl (by decide) (x_binI H rfl rfl rfl (b_sub (z := ((56 - 8 * i : Nat) : Int)) (by rw [IntKind.wrap_i64]; omega))) ?_
      clear H a; intro a H
      refine e_op H rfl rfl (by decide) (x_binI H rfl rfl rfl (b_shr (z := ((x / 2 ^ (56 - 8 * i) : Nat) : Int)) (by omega) (by rw [min_b64 (56 - 8 * i) rfl (by omega)]; simp))) ?_
      clear H a; intro a H
      refine e_op H rfl rfl (by decide) (x_conv H rfl rfl (c_int (z := ((UInt8.ofNat (x / 2 ^ (56 - 8 * i))).toNat : Int)) Tryd.underlying39 Tryd.underlying5 (wrap_u8_nat _))) ?_
      clear H a; intro a H
      refine e_op H rfl rfl (by decide) (x_indexAddr H rfl rfl rfl (i_sl0 (m := i) Tryd.underlying22 Tryd.sizeOf5 rfl (by omega))) ?_
      clear H a; intro a H
      refine e_st H rfl rfl (x_store H rfl rfl rfl (st_cell rfl rfl Tryd.sizeOf5 (B1.frozen i) (B1.isSome i (by simp [u8s_len]; omega)))) ?_
      have B2 := B1.setU8 i (UInt8.ofNat (x / 2 ^ (56 - 8 * i)))
      rw [show 8 - i = (7 - i) + 1 by omega, fill_u8 _ _ _ _ (by simp), ← be8_succ, show 7 - i = 8 - (i + 1) by omega] at B2
      have hsz := E1.sz
      have E2 := E1.st (g := g) (by omega) i (.int .u8 ((UInt8.ofNat (x / 2 ^ (56 - 8 * i))).toNat : Int))
      refine e_nil (hR.out _ _ ?_)
      clear hR R
      refine hK7 _ _ ?_
      clear hK7 K7
      refine e_region (fun R hR => ?_)
      refine e_op H rfl rfl (by decide) (x_binI H rfl rfl rfl (b_add (z := ((i + 1 : Nat) : Int)) (by rw [IntKind.wrap_i64]; omega))) ?_
      clear H a; intro a H
      refine e_op H rfl rfl (by decide) (x_move H rfl rfl) ?_
      clear H a; intro a H
      refine e_nil (hR.out _ _ ?_)
      clear hR R
      exact ⟨8 - (i + 1), by omega, i + 1, by omega, rfl, H.sub ⟨rfl, rfl, rfl, rfl, trivial⟩, B2, E2⟩
    · skip
      obtain rfl : i = 8 := by omega
      refine wp_seq_k (fun K9 hK9 => ?_)
      refine e_region (fun R hR => ?_)
      refine e_op H rfl rfl (by decide) (x_binI H rfl rfl rfl (b_lss (b := false) (dec_f (by omega)))) ?_
      clear H a; intro a H
      refine e_nil (hR.out _ _ ?_)
      clear hR R
      refine hK9 _ _ ?_
      clear hK9 K9
      refine wp_seq_k (fun K10 hK10 => ?_)
      refine c_false H rfl ?_
      refine wp_exit ?_
      refine t_exit ?_
      refine t_exit ?_
      refine b_hit ?_
      clear hK10 K10
      refine hK3 _ _ ?_
      clear hK3 K3
      refine wp_seq_k (fun K11 hK11 => ?_)
      refine e_region (fun R hR => ?_)
      refine e_op H rfl rfl (by decide) (x_move H rfl rfl) ?_
      clear H a; intro a H
      refine e_op H rfl rfl (by decide) (x_assign H rfl rfl) ?_
      clear H a; intro a H
      refine e_nil (hR.out _ _ ?_)
      clear hR R
      refine hK11 _ _ ?_
      clear hK11 K11
      refine wp_ret ?_
      refine ret1 H rfl rfl ⟨g, rfl, ?_, by omega, E1⟩
      simpa [be8] using B1
theorem new_any (w0 : World) :
    Calls Tryd.prog 18 #[] w0 fun e w' => ∃ g, e = .returned (.pointer (some ⟨g, 0, none⟩)) ∧ HashIs w' g [] ∧ g = w0.heap.size ∧ Ext w0 w' := by
  refine calls_has (args := []) Tryd.func18 rfl Tryd.ntmps18 (Nat.le_of_ble_eq_true rfl) (fun a H => ?_)
  simp only [argl, Nat.reduceAdd] at H
  refine wp_seq_k (fun K1 hK1 => ?_)
  refine e_region (fun R hR => ?_)
  refine e_op H rfl rfl (by decide) (x_assign H rfl rfl) ?_
  clear H a; intro a H
  refine e_nil (hR.out _ _ ?_)
  clear hR R
  refine hK1 _ _ ?_
  clear hK1 K1
  refine wp_seq_k (fun K2 hK2 => ?_)
  refine e_region (fun R hR => ?_)
  refine e_op H rfl rfl (by decide) (x_build (v := .agg (u32s st0.l).toArray) H rfl rfl (run_build _ 67 _ _ (by kernel_rfl))) ?_
  clear H a; intro a H
  refine e_op H rfl rfl (by decide) (x_build (v := .agg (u32s st0.l ++ u8s (List.replicate 64 0) ++ [Value.int .u64 ((0 : Nat) : Int)]).toArray) H rfl rfl (run_build _ 74 _ _ (by kernel_rfl))) ?_
  clear H a; intro a H
  refine e_op H rfl rfl (by decide) (x_box H rfl rfl bx_new) ?_
  clear H a; intro a H
  refine e_op H rfl rfl (by decide) (x_assign H rfl rfl) ?_
  clear H a; intro a H
  refine e_nil (hR.out _ _ ?_)
  clear hR R
  refine hK2 _ _ ?_
  clear hK2 K2
  refine wp_ret ?_
  refine ret1 H rfl rfl ⟨w0.heap.size, rfl, ⟨List.replicate 64 0, ⟨Blk.new w0 74 _, rfl, by simp⟩, by simp⟩, rfl, (Ext.refl w0).al _⟩
theorem len_any (g : Nat) (l : List UInt8) (w0 : World) (h : HashIs w0 g l) :
    Calls Tryd.prog 24 #[.pointer (some ⟨g, 0, none⟩)] w0 fun e w' => e = .returned (.int .u64 (l.length : Int)) ∧ w' = w0 := by
  obtain ⟨bs, HS, hbs⟩ := h
  refine calls_has (args := [.pointer (some ⟨g, 0, none⟩)]) Tryd.func24 rfl Tryd.ntmps24 (Nat.le_of_ble_eq_true rfl) (fun a H => ?_)
  simp only [argl, Nat.reduceAdd] at H
  refine wp_seq_k (fun K1 hK1 => ?_)
  refine e_region (fun R hR => ?_)
  refine e_op H rfl rfl (by decide) (x_assign H rfl rfl) ?_
  clear H a; intro a H
  refine e_nil (hR.out _ _ ?_)
  clear hR R
  refine hK1 _ _ ?_
  clear hK1 K1
  refine wp_seq_k (fun K2 hK2 => ?_)
  refine wp_seq_k (fun K3 hK3 => ?_)
  refine e_region (fun R hR => ?_)
  refine e_op H rfl rfl (by decide) (x_move H rfl rfl) ?_
  clear H a; intro a H
  refine e_op H rfl rfl (by decide) (x_bin H rfl rfl rfl (by rw [eqGuard_at_pointer]; rfl) (b_pnil Tryd.underlying30 rfl)) ?_
  clear H a; intro a H
  refine e_nil (hR.out _ _ ?_)
  clear hR R
  refine hK3 _ _ ?_
  clear hK3 K3
  refine c_false H rfl ?_
  refine wp_skip ?_
  refine hK2 _ _ ?_
  clear hK2 K2
  refine wp_seq_k (fun K4 hK4 => ?_)
  refine e_region (fun R hR => ?_)
  refine e_op H rfl rfl (by decide) (x_move H rfl rfl) ?_
  clear H a; intro a H
  refine e_op H rfl rfl (by decide) (x_nilCheck H rfl rfl) ?_
  clear H a; intro a H
  refine e_op H rfl rfl (by decide) (x_fieldAddr H rfl rfl (fa74_2 _ _)) ?_
  clear H a; intro a H
  refine e_op H rfl rfl (by decide) (x_load H rfl rfl (l_cell Tryd.isAgg39 (HS.tot))) ?_
  clear H a; intro a H
  refine e_op H rfl rfl (by decide) (x_assign H rfl rfl) ?_
  clear H a; intro a H
  refine e_nil (hR.out _ _ ?_)
  clear hR R
  refine hK4 _ _ ?_
  clear hK4 K4
  refine wp_ret ?_
  exact ret1 H rfl rfl ⟨rfl, rfl⟩
theorem len_nil (w0 : World) : Calls Tryd.prog 24 #[.pointer none] w0 fun e w' => e = .returned (.int .u64 0) ∧ w' = w0 := by
  refine calls_has (args := [.pointer none]) Tryd.func24 rfl Tryd.ntmps24 (Nat.le_of_ble_eq_true rfl) (fun a H => ?_)
  simp only [argl, Nat.reduceAdd] at H
  refine wp_seq_k (fun K1 hK1 => ?_)
  refine e_region (fun R hR => ?_)
  refine e_op H rfl rfl (by decide) (x_assign H rfl rfl) ?_
  clear H a; intro a H
  refine e_nil (hR.out _ _ ?_)
  clear hR R
  refine hK1 _ _ ?_
  clear hK1 K1
  refine wp_seq_k (fun K2 hK2 => ?_)
  refine wp_seq_k (fun K3 hK3 => ?_)
  refine e_region (fun R hR => ?_)
  refine e_op H rfl rfl (by decide) (x_move H rfl rfl) ?_
  clear H a; intro a H
  refine e_op H rfl rfl (by decide) (x_bin H rfl rfl rfl (by rw [eqGuard_at_pointer]; rfl) (b_pnil Tryd.underlying30 rfl)) ?_
  clear H a; intro a H
  refine e_nil (hR.out _ _ ?_)
  clear hR R
  refine hK3 _ _ ?_
  clear hK3 K3
  refine c_true H rfl ?_
  refine wp_seq_k (fun K4 hK4 => ?_)
  refine e_region (fun R hR => ?_)
  refine e_op H rfl rfl (by decide) (x_assign H rfl rfl) ?_
  clear H a; intro a H
  refine e_nil (hR.out _ _ ?_)
  clear hR R
  refine hK4 _ _ ?_
  clear hK4 K4
  refine wp_ret ?_
  refine t_ret ?_
  exact ret1 H rfl rfl ⟨rfl, rfl⟩
theorem copy_any (g : Nat) (l : List UInt8) (w0 : World) (h : HashIs w0 g l) :
    Calls Tryd.prog 25 #[.pointer (some ⟨g, 0, none⟩)] w0 fun e w' => ∃ g3, e = .returned (.pointer (some ⟨g3, 0, none⟩)) ∧ HashIs w' g3 l ∧ g3 = w0.heap.size ∧ Ext w0 w' := by
  obtain ⟨bs, HS, hbs⟩ := h
  refine calls_has (args := [.pointer (some ⟨g, 0, none⟩)]) Tryd.func25 rfl Tryd.ntmps25 (Nat.le_of_ble_eq_true rfl) (fun a H => ?_)
  simp only [argl, Nat.reduceAdd] at H
  refine wp_seq_k (fun K1 hK1 => ?_)
  refine e_region (fun R hR => ?_)
  refine e_op H rfl rfl (by decide) (x_assign H rfl rfl) ?_
  clear H a; intro a H
  refine e_nil (hR.out _ _ ?_)
  clear hR R
  refine hK1 _ _ ?_
  clear hK1 K1
  refine wp_seq_k (fun K2 hK2 => ?_)
  refine wp_seq_k (fun K3 hK3 => ?_)
  refine e_region (fun R hR => ?_)
  refine e_op H rfl rfl (by decide) (x_move H rfl rfl) ?_
  clear H a; intro a H
  refine e_op H rfl rfl (by decide) (x_bin H rfl rfl rfl (by rw [eqGuard_at_pointer]; rfl) (b_pnil Tryd.underlying30 rfl)) ?_
  clear H a; intro a H
  refine e_nil (hR.out _ _ ?_)
  clear hR R
  refine hK3 _ _ ?_
  clear hK3 K3
  refine c_false H rfl ?_
  refine wp_skip ?_
  refine hK2 _ _ ?_
  clear hK2 K2
  refine wp_seq_k (fun K4 hK4 => ?_)
  refine e_region (fun R hR => ?_)
  refine e_op H rfl rfl (by decide) (x_move H rfl rfl) ?_
  clear H a; intro a H
  refine e_op H rfl rfl (by decide) (x_nilCheck H rfl rfl) ?_
  clear H a; intro a H
  refine e_op H rfl rfl (by decide) (x_load H rfl rfl (l_row HS.blk Tryd.underlying74 rfl (by rw [size_hsh HS]; kernel_rfl))) ?_
  clear H a; intro a H
  refine e_op H rfl rfl (by decide) (x_alloc H rfl (al_new (Tryd.zeroValue74 _))) ?_
  clear H a; intro a H
  have B4 := heap_alloc_new w0 (.cells Tryd.zeroCells74 74)
  have E4 := (Ext.refl w0).al (.cells Tryd.zeroCells74 74)
  obtain ⟨g3, hg3⟩ : ∃ g3, g3 = w0.heap.size := ⟨_, rfl⟩
  rw [← hg3] at H B4
  generalize w0.alloc (.cells Tryd.zeroCells74 74) = w1 at *
  refine e_st H rfl rfl (x_store H rfl rfl rfl (st_row B4 (by rw [size_hsh HS]; kernel_rfl) (by rw [size_hsh HS]; exact Tryd.zeroCells74_size) (one_hsh _ _ _))) ?_
  have B5 : Blk (w1.setRow g3 (u32s (blk l (l.length / 64)).l ++ u8s bs ++ [Value.int .u64 (l.length : Int)]).toArray) g3 74 (u32s (blk l (l.length / 64)).l ++ u8s bs ++ [Value.int .u64 (l.length : Int)]) := setRow_heap w1 g3 _ _ 74 (0, 0) B4
  have E5 := E4.row_ (g := g3) (by omega) (u32s (blk l (l.length / 64)).l ++ u8s bs ++ [Value.int .u64 (l.length : Int)]).toArray
  refine e_nil (hR.out _ _ ?_)
  clear hR R
  refine hK4 _ _ ?_
  clear hK4 K4
  refine wp_seq_k (fun K5 hK5 => ?_)
  refine e_region (fun R hR => ?_)
  refine e_op H rfl rfl (by decide) (x_assign H rfl rfl) ?_
  clear H a; intro a H
  refine e_nil (hR.out _ _ ?_)
  clear hR R
  refine hK5 _ _ ?_
  clear hK5 K5
  refine wp_ret ?_
  exact ret1 H rfl rfl ⟨g3, rfl, ⟨bs, ⟨B5, HS.l8, HS.l64⟩, hbs⟩, hg3, E5⟩
theorem copy_nil (w0 : World) : Calls Tryd.prog 25 #[.pointer none] w0 fun e w' => e = .returned (.pointer none) ∧ w' = w0 := by
  refine calls_has (args := [.pointer none]) Tryd.func25 rfl Tryd.ntmps25 (Nat.le_of_ble_eq_true rfl) (fun a H => ?_)
  simp only [argl, Nat.reduceAdd] at H
  refine wp_seq_k (fun K1 hK1 => ?_)
  refine e_region (fun R hR => ?_)
  refine e_op H rfl rfl (by decide) (x_assign H rfl rfl) ?_
  clear H a; intro a H
  refine e_nil (hR.out _ _ ?_)
  clear hR R
  refine hK1 _ _ ?_
  clear hK1 K1
  refine wp_seq_k (fun K2 hK2 => ?_)
  refine wp_seq_k (fun K3 hK3 => ?_)
  refine e_region (fun R hR => ?_)
  refine e_op H rfl rfl (by decide) (x_move H rfl rfl) ?_
  clear H a; intro a H
  refine e_op H rfl rfl (by decide) (x_bin H rfl rfl rfl (by rw [eqGuard_at_pointer]; rfl) (b_pnil Tryd.underlying30 rfl)) ?_
  clear H a; intro a H
  refine e_nil (hR.out _ _ ?_)
  clear hR R
  refine hK3 _ _ ?_
  clear hK3 K3
  refine c_true H rfl ?_
  refine wp_seq_k (fun K4 hK4 => ?_)
  refine e_region (fun R hR => ?_)
  refine e_op H rfl rfl (by decide) (x_assign H rfl rfl) ?_
  clear H a; intro a H
  refine e_nil (hR.out _ _ ?_)
  clear hR R
  refine hK4 _ _ ?_
  clear hK4 K4
  refine wp_ret ?_
  refine t_ret ?_
  exact ret1 H rfl rfl ⟨rfl, rfl⟩
end Go.Proofs.YtknllmcpogoeoaaDoor
