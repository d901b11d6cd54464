/- The reference's digits, constants, rotation, eight bytes and padding, walked. -/
import Derived.Test.YtknllmcpogoeoaaDoorHs4
import Derived.Test.YtknllmcpogoeoaaDoorD5
namespace Go.Proofs.YtknllmcpogoeoaaDoor
open Go.RowKit
set_option linter.unusedVariables false
set_option linter.unusedSimpArgs false
set_option maxRecDepth 100000
theorem digit48_any (n : Nat) (hn : n < 256) (w : World) : Calls Tryd.prog 48 #[.int .u8 (n : Int)] w fun e w' => e = .returned (.int .i64 (digv n)) ∧ w' = w := by
  by_cases h1 : 48 ≤ n ∧ n ≤ 57
  · have hd : digv n = (n : Int) - 48 := by unfold digv; rw [if_pos h1]
    rw [hd]
    have t1 : decide ((48 : Int) ≤ n) = true := by simp; omega
    have t2 : decide ((n : Int) ≤ 57) = true := by simp; omega
    have t3 : decide (48 ≤ n) = true := by simp; omega
    have t4 : decide (n ≤ 57) = true := by simp; omega
    have q1 : (48 : Int) ≤ n := by omega
    have q2 : (n : Int) ≤ 57 := by omega
    clear hd h1
    go_enter Tryd.func48, Tryd.ntmps48
    go_wp2
    go_ret
    exact ⟨rfl, rfl⟩
  · by_cases h2 : 97 ≤ n ∧ n ≤ 102
    · have hd : digv n = (n : Int) - 97 + 10 := by unfold digv; rw [if_neg h1, if_pos h2]; omega
      rw [hd]
      have t1 : decide ((48 : Int) ≤ n) = true := by simp; omega
      have t2 : decide ((n : Int) ≤ 57) = false := by simp; omega
      have t3 : decide (48 ≤ n) = true := by simp; omega
      have t4 : decide (n ≤ 57) = false := by simp; omega
      have t5 : decide ((97 : Int) ≤ n) = true := by simp; omega
      have t6 : decide ((n : Int) ≤ 102) = true := by simp; omega
      have q1 : (97 : Int) ≤ n := by omega
      have q2 : (n : Int) ≤ 102 := by omega
      clear hd h1 h2
      go_enter Tryd.func48, Tryd.ntmps48
      go_wp2
      go_ret
      exact ⟨rfl, rfl⟩
    · have hd : digv n = -1 := by unfold digv; rw [if_neg h1, if_neg h2]
      rw [hd]
      have H1 := Lib.hid h1
      have H2 := Lib.hid h2
      clear hd h1 h2
      go_enter Tryd.func48, Tryd.ntmps48
      go_wp2
      all_goals first
        | (go_ret; exact ⟨rfl, rfl⟩)
        | (refine (H1.out ?_).elim; constructor <;> omega)
        | (refine (H2.out ?_).elim; constructor <;> omega)
theorem rotr42_any (x : BitVec 32) (m : Nat) (w : World) (h1 : 0 < m) (h2 : m < 32) : Calls Tryd.prog 42 #[.int .u32 (wn x), .int .i64 (m : Int)] w fun e w' => e = .returned (.int .u32 (wn (rr x m))) ∧ w' = w.drew := by
  refine calls_has (args := [.int .u32 (wn x), .int .i64 (m : Int)]) Tryd.func42 rfl Tryd.ntmps42 (Nat.le_of_ble_eq_true rfl) (fun a H => ?_)
  simp only [argl, Nat.reduceAdd] at H
  refine wp_seq_k (fun K1 hK1 => ?_)
  refine e_region (fun R hR => ?_)
  refine e_op H rfl rfl (by decide) (x_assign H rfl rfl) ?_
  clear H a; intro a H
  refine e_nil (hR.out _ _ ?_)
  clear hR R
  refine hK1 _ _ ?_
  clear hK1 K1
  refine wp_seq_k (fun K2 hK2 => ?_)
  refine e_quiet (by kernel_rfl) (by kernel_rfl) (fun R hR => ?_)
  refine s_op H rfl rfl (by decide) (x_move H rfl rfl) ?_
  clear H a; intro a H
  refine s_op H rfl rfl (by decide) (x_move H rfl rfl) ?_
  clear H a; intro a H
  refine s_op H rfl rfl (by decide) (x_binI H rfl rfl rfl (b_shr (z := wn (x >>> m)) (by omega) (by rw [min_b32 m rfl (by omega)]; exact shr_wn x m))) ?_
  clear H a; intro a H
  refine s_op H rfl rfl (by decide) (x_move H rfl rfl) ?_
  clear H a; intro a H
  refine s_op H rfl rfl (by decide) (x_move H rfl rfl) ?_
  clear H a; intro a H
  refine s_op H rfl rfl (by decide) (x_binI H rfl rfl rfl (b_sub (z := ((32 - m : Nat) : Int)) (by rw [IntKind.wrap_i64]; omega))) ?_
  clear H a; intro a H
  refine s_op H rfl rfl (by decide) (x_binI H rfl rfl rfl (b_shl (z := wn (x <<< (32 - m))) (by omega) (by rw [min_b32 (32 - m) rfl (by omega)]; exact shl_wn x _))) ?_
  clear H a; intro a H
  refine s_op H rfl rfl (by decide) (x_binI H rfl rfl rfl (b_or (z := wn (rr x m)) (or_wn _ _))) ?_
  clear H a; intro a H
  refine s_op H rfl rfl (by decide) (x_assign H rfl rfl) ?_
  clear H a; intro a H
  refine wpStill_nil (hR.out _ _ ?_)
  clear hR R
  refine hK2 _ _ ?_
  clear hK2 K2
  refine wp_ret ?_
  exact ret1 H rfl rfl ⟨rfl, rfl⟩
theorem constant_any (i : Nat) (hi : i < 72) (w0 : World) : Calls Tryd.prog 39 #[.int .i64 (i : Int)] w0 fun e w' => e = .returned (.int .u32 (wn (wat kall i))) ∧ w' = w0 := by
  refine calls_has (args := [.int .i64 (i : Int)]) Tryd.func39 rfl Tryd.ntmps39 (Nat.le_of_ble_eq_true rfl) (fun a H => ?_)
  simp only [argl, Nat.reduceAdd] at H
  refine wp_seq_k (fun K1 hK1 => ?_)
  refine e_region (fun R hR => ?_)
  refine e_op H rfl rfl (by decide) (x_assign H rfl rfl) ?_
  clear H a; intro a H
  refine e_nil (hR.out _ _ ?_)
  clear hR R
  refine hK1 _ _ ?_
  clear hK1 K1
  refine wp_seq_k (fun K2 hK2 => ?_)
  refine e_region (fun R hR => ?_)
  refine e_op H rfl rfl (by decide) (x_assign H rfl rfl) ?_
  clear H a; intro a H
  refine e_nil (hR.out _ _ ?_)
  clear hR R
  refine hK2 _ _ ?_
  clear hK2 K2
  refine wp_seq_k (fun K3 hK3 => ?_)
  refine wp_seq_k (fun K4 hK4 => ?_)
  refine e_region (fun R hR => ?_)
  refine e_op H rfl rfl (by decide) (x_assign H rfl rfl) ?_
  clear H a; intro a H
  refine e_nil (hR.out _ _ ?_)
  clear hR R
  refine hK4 _ _ ?_
  clear hK4 K4
  refine wp_block ?_
  refine wp_loop_ghost (fun n a w => ∃ j : Nat, j ≤ 8 ∧ n = 8 - j ∧ Has a 20 [(0, .int .i64 (i : Int)), (3, .int .u32 (cpart i j : Int)), (4, .int .i64 (j : Int))] ∧ w = w0) (8) ?_ ?_
  · skip
    exact ⟨0, by omega, rfl, H.sub ⟨rfl, rfl, rfl, trivial⟩, rfl⟩
  · skip
    clear H a
    intro n a w hI
    obtain ⟨j, hj, rfl, H, rfl⟩ := hI
    rcases Nat.lt_or_ge j 8 with hlt | hge
    · skip
      have hd := cdig i j hi hlt
      have hd2 := digv_le (rsb (8 * i + j)).toNat
      have hrs := refS_size
      have hcp : cpart i j < 4294967296 := by
        cases j with
        | zero => simp [cpart]
        | succ j => simp only [cpart]; omega
      refine wp_seq_k (fun K5 hK5 => ?_)
      refine wp_seq_k (fun K6 hK6 => ?_)
      refine e_region (fun R hR => ?_)
      refine e_op H rfl rfl (by decide) (x_move H rfl rfl) ?_
      clear H a; intro a H
      refine e_op H rfl rfl (by decide) (x_binI H rfl rfl rfl (b_lss (b := true) (dec_t (by omega)))) ?_
      clear H a; intro a H
      refine e_nil (hR.out _ _ ?_)
      clear hR R
      refine hK6 _ _ ?_
      clear hK6 K6
      refine c_true H rfl ?_
      refine wp_skip ?_
      refine hK5 _ _ ?_
      clear hK5 K5
      refine wp_seq_k (fun K7 hK7 => ?_)
      refine wp_block ?_
      refine e_region (fun R hR => ?_)
      refine e_op H rfl rfl (by decide) (x_move H rfl rfl) ?_
      clear H a; intro a H
      refine e_op H rfl rfl (by decide) (x_binI H rfl rfl rfl (b_mul (z := ((16 * cpart i j % 4294967296 : Nat) : Int)) (by rw [IntKind.wrap_u32]; omega))) ?_
      clear H a; intro a H
      refine e_op H rfl rfl (by decide) (x_move H rfl rfl) ?_
      clear H a; intro a H
      refine e_op H rfl rfl (by decide) (x_binI H rfl rfl rfl (b_mul (z := ((8 * i : Nat) : Int)) (by rw [IntKind.wrap_i64]; omega))) ?_
      clear H a; intro a H
      refine e_op H rfl rfl (by decide) (x_move H rfl rfl) ?_
      clear H a; intro a H
      refine e_op H rfl rfl (by decide) (x_binI H rfl rfl rfl (b_add (z := ((8 * i + j : Nat) : Int)) (by rw [IntKind.wrap_i64]; omega))) ?_
      clear H a; intro a H
      refine e_op H rfl rfl (by decide) (x_index (vx := .string refS) H rfl (by kernel_rfl) rfl (idx_str (m := 8 * i + j) Tryd.underlying9 rfl (by rw [refS_size]; omega))) ?_
      clear H a; intro a H
      refine e_callp H rfl rfl (by decide) rfl rfl (Tryd.call48 _) (digit48_any _ (rsb (8 * i + j)).toNat_lt _) ?_
      clear H a; intro a H
      refine e_op H rfl rfl (by decide) (x_conv H rfl rfl (c_int (z := (((digv (rsb (8 * i + j)).toNat).toNat : Nat) : Int)) Tryd.underlying3 Tryd.underlying66 (by rw [IntKind.wrap_u32]; omega))) ?_
      clear H a; intro a H
      refine e_op H rfl rfl (by decide) (x_binI H rfl rfl rfl (b_add (z := ((cpart i (j + 1) : Nat) : Int)) (by rw [IntKind.wrap_u32]; simp only [cpart]; omega))) ?_
      clear H a; intro a H
      refine e_op H rfl rfl (by decide) (x_assign H rfl rfl) ?_
      clear H a; intro a H
      refine e_nil (hR.out _ _ ?_)
      clear hR R
      refine hK7 _ _ ?_
      clear hK7 K7
      refine e_region (fun R hR => ?_)
      refine e_op H rfl rfl (by decide) (x_move H rfl rfl) ?_
      clear H a; intro a H
      refine e_op H rfl rfl (by decide) (x_binI H rfl rfl rfl (b_add (z := ((j + 1 : Nat) : Int)) (by rw [IntKind.wrap_i64]; omega))) ?_
      clear H a; intro a H
      refine e_op H rfl rfl (by decide) (x_assign H rfl rfl) ?_
      clear H a; intro a H
      refine e_nil (hR.out _ _ ?_)
      clear hR R
      exact ⟨8 - (j + 1), by omega, j + 1, by omega, rfl, H.sub ⟨rfl, rfl, rfl, trivial⟩, rfl⟩
    · skip
      obtain rfl : j = 8 := by omega
      rw [cpart_end i hi] at H
      refine wp_seq_k (fun K8 hK8 => ?_)
      refine wp_seq_k (fun K9 hK9 => ?_)
      refine e_region (fun R hR => ?_)
      refine e_op H rfl rfl (by decide) (x_move H rfl rfl) ?_
      clear H a; intro a H
      refine e_op H rfl rfl (by decide) (x_binI H rfl rfl rfl (b_lss (b := false) (dec_f (by omega)))) ?_
      clear H a; intro a H
      refine e_nil (hR.out _ _ ?_)
      clear hR R
      refine hK9 _ _ ?_
      clear hK9 K9
      refine c_false H rfl ?_
      refine wp_exit ?_
      refine t_exit ?_
      refine t_exit ?_
      refine b_hit ?_
      clear hK8 K8
      refine hK3 _ _ ?_
      clear hK3 K3
      refine wp_seq_k (fun K10 hK10 => ?_)
      refine e_region (fun R hR => ?_)
      refine e_op H rfl rfl (by decide) (x_move H rfl rfl) ?_
      clear H a; intro a H
      refine e_op H rfl rfl (by decide) (x_assign H rfl rfl) ?_
      clear H a; intro a H
      refine e_nil (hR.out _ _ ?_)
      clear hR R
      refine hK10 _ _ ?_
      clear hK10 K10
      refine wp_ret ?_
      exact ret1 H rfl rfl ⟨rfl, rfl⟩
theorem long_any (x : Nat) (w0 : World) (hx : x < 18446744073709551616) :
    Calls Tryd.prog 46 #[.int .u64 (x : Int)] w0 fun e w' => ∃ g, e = .returned (.slice (some ⟨g, 0, none⟩) 8 8) ∧ Blk w' g 5 (u8s (be8 x)) ∧ w0.heap.size ≤ g ∧ Ext w0 w' := by
  refine calls_has (args := [.int .u64 (x : Int)]) Tryd.func46 rfl Tryd.ntmps46 (Nat.le_of_ble_eq_true rfl) (fun a H => ?_)
  simp only [argl, Nat.reduceAdd] at H
  refine wp_seq_k (fun K1 hK1 => ?_)
  refine e_region (fun R hR => ?_)
  refine e_op H rfl rfl (by decide) (x_assign H rfl rfl) ?_
  clear H a; intro a H
  refine e_nil (hR.out _ _ ?_)
  clear hR R
  refine hK1 _ _ ?_
  clear hK1 K1
  refine wp_seq_k (fun K2 hK2 => ?_)
  refine e_region (fun R hR => ?_)
  refine e_op H rfl rfl (by decide) (x_makeSlice H rfl rfl rfl (mk_u8 (n := 8) (c := 8) rfl rfl (by omega) (by omega))) ?_
  clear H a; intro a H
  have B1 := Blk.new w0 5 (u8s (List.replicate 8 0))
  have E1 := (Ext.refl w0).al (.cells (u8s (List.replicate 8 0)).toArray 5)
  obtain ⟨g, hg⟩ : ∃ g, g = w0.heap.size := ⟨_, rfl⟩
  rw [← hg] at H B1
  generalize w0.alloc (.cells (u8s (List.replicate 8 0)).toArray 5) = w at *
  refine e_op H rfl rfl (by decide) (x_assign H rfl rfl) ?_
  clear H a; intro a H
  refine e_nil (hR.out _ _ ?_)
  clear hR R
  refine hK2 _ _ ?_
  clear hK2 K2
  refine wp_seq_k (fun K3 hK3 => ?_)
  refine wp_seq_k (fun K4 hK4 => ?_)
  refine e_region (fun R hR => ?_)
  refine e_op H rfl rfl (by decide) (x_assign H rfl rfl) ?_
  clear H a; intro a H
  refine e_nil (hR.out _ _ ?_)
  clear hR R
  refine hK4 _ _ ?_
  clear hK4 K4
  refine wp_block ?_
  refine wp_loop_ghost (fun n a w => ∃ j : Nat, j ≤ 8 ∧ n = 8 - j ∧ Has a 19 [(0, .int .u64 ((x / 2 ^ (8 * j) : Nat) : Int)), (3, .slice (some ⟨g, 0, none⟩) 8 8), (4, .int .i64 (7 - (j : Int)))] ∧ Blk w g 5 (u8s (List.replicate (8 - j) 0 ++ (be8 x).drop (8 - j))) ∧ Ext w0 w) (8) ?_ ?_
  · skip
    exact ⟨0, by omega, rfl, by simpa using H.sub (l' := [(0, .int .u64 (x : Int)), (3, .slice (some ⟨g, 0, none⟩) 8 8), (4, .int .i64 7)]) ⟨rfl, rfl, rfl, trivial⟩, by rw [Nat.sub_zero, List.drop_eq_nil_of_le (by rw [be8_len]; omega), List.append_nil]; exact B1, E1⟩
  · skip
    clear B1 E1 H a w
    intro n a w hI
    obtain ⟨j, hj, rfl, H, B1, E1⟩ := hI
    have hsz := E1.sz
    rcases Nat.lt_or_ge j 8 with hlt | hge
    · skip
      obtain ⟨y, hy⟩ : ∃ y, y = x / 2 ^ (8 * j) := ⟨_, rfl⟩
      have hy2 : x / 2 ^ (8 * (j + 1)) = y / 256 := by rw [hy, Nat.div_div_eq_div_mul, show 8 * (j + 1) = 8 * j + 8 by omega, Nat.pow_add]
      have hyb : y < 18446744073709551616 := by rw [hy]; exact Nat.lt_of_le_of_lt (Nat.div_le_self _ _) hx
      have hbe : (be8 x).drop (7 - j) = UInt8.ofNat y :: (be8 x).drop (8 - j) := by rw [be8_drop x (7 - j) (by omega), show 56 - 8 * (7 - j) = 8 * j by omega, show 7 - j + 1 = 8 - j by omega, ← hy]
      rw [← hy] at H
      refine wp_seq_k (fun K5 hK5 => ?_)
      refine wp_seq_k (fun K6 hK6 => ?_)
      refine e_region (fun R hR => ?_)
      refine e_op H rfl rfl (by decide) (x_move H rfl rfl) ?_
      clear H a; intro a H
      refine e_op H rfl rfl (by decide) (x_binI H rfl rfl rfl (b_geq (b := true) (dec_t (by omega)))) ?_
      clear H a; intro a H
      refine e_nil (hR.out _ _ ?_)
      clear hR R
      refine hK6 _ _ ?_
      clear hK6 K6
      refine c_true H rfl ?_
      refine wp_skip ?_
      refine hK5 _ _ ?_
      clear hK5 K5
      refine wp_seq_k (fun K7 hK7 => ?_)
      refine wp_block ?_
      refine wp_seq_k (fun K8 hK8 => ?_)
      refine e_region (fun R hR => ?_)
      refine e_op H rfl rfl (by decide) (x_move H rfl rfl) ?_
      clear H a; intro a H
      refine e_op H rfl rfl (by decide) (x_move H rfl rfl) ?_
      clear H a; intro a H
      refine e_op H rfl rfl (by decide) (x_move H rfl rfl) ?_
      clear H a; intro a H
      refine e_op H rfl rfl (by decide) (x_binI H rfl rfl rfl (b_rem (z := ((y % 256 : Nat) : Int)) (by decide) (by rw [Int.tmod_eq_emod_of_nonneg (by omega)]; omega))) ?_
      clear H a; intro a H
      refine e_op H rfl rfl (by decide) (x_conv H rfl rfl (c_int (z := ((UInt8.ofNat y).toNat : Int)) Tryd.underlying39 Tryd.underlying5 (by rw [ofNat_mod, IntKind.wrap_u8]; omega))) ?_
      clear H a; intro a H
      refine e_op H rfl rfl (by decide) (x_indexAddr H rfl rfl rfl (i_sl0 (m := 7 - j) Tryd.underlying22 Tryd.sizeOf5 (by omega) (by omega))) ?_
      clear H a; intro a H
      refine e_st H rfl rfl (x_store H rfl rfl rfl (st_cell rfl rfl Tryd.sizeOf5 (B1.frozen (7 - j)) (B1.isSome (7 - j) (by simp [u8s_len, be8_len]; omega)))) ?_
      have B2 := B1.setU8 (7 - j) (UInt8.ofNat y)
      rw [show List.replicate (8 - j) (0 : UInt8) = List.replicate ((7 - j) + 1) 0 by rw [show 8 - j = (7 - j) + 1 by omega], long_set, ← hbe, show 7 - j = 8 - (j + 1) by omega] at B2
      have E2 := E1.st (g := g) (by omega) (8 - (j + 1)) (.int .u8 ((UInt8.ofNat y).toNat : Int))
      rw [show 7 - j = 8 - (j + 1) by omega]
      refine e_nil (hR.out _ _ ?_)
      clear hR R
      refine hK8 _ _ ?_
      clear hK8 K8
      refine e_region (fun R hR => ?_)
      refine e_op H rfl rfl (by decide) (x_move H rfl rfl) ?_
      clear H a; intro a H
      refine e_op H rfl rfl (by decide) (x_binI H rfl rfl rfl (b_quo (z := ((y / 256 : Nat) : Int)) (by decide) (by rw [Int.tdiv_eq_ediv_of_nonneg (by omega), wrap_u64_small _ (by omega) (by omega)]; omega))) ?_
      clear H a; intro a H
      refine e_op H rfl rfl (by decide) (x_assign H rfl rfl) ?_
      clear H a; intro a H
      refine e_nil (hR.out _ _ ?_)
      clear hR R
      refine hK7 _ _ ?_
      clear hK7 K7
      refine e_region (fun R hR => ?_)
      refine e_op H rfl rfl (by decide) (x_move H rfl rfl) ?_
      clear H a; intro a H
      refine e_op H rfl rfl (by decide) (x_binI H rfl rfl rfl (b_sub (z := 7 - ((j + 1 : Nat) : Int)) (by rw [IntKind.wrap_i64]; omega))) ?_
      clear H a; intro a H
      refine e_op H rfl rfl (by decide) (x_assign H rfl rfl) ?_
      clear H a; intro a H
      refine e_nil (hR.out _ _ ?_)
      clear hR R
      refine ⟨8 - (j + 1), by omega, j + 1, by omega, rfl, ?_, B2, E2⟩
      rw [hy2]
      exact H.sub ⟨rfl, rfl, rfl, trivial⟩
    · skip
      obtain rfl : j = 8 := by omega
      refine wp_seq_k (fun K9 hK9 => ?_)
      refine wp_seq_k (fun K10 hK10 => ?_)
      refine e_region (fun R hR => ?_)
      refine e_op H rfl rfl (by decide) (x_move H rfl rfl) ?_
      clear H a; intro a H
      refine e_op H rfl rfl (by decide) (x_binI H rfl rfl rfl (b_geq (b := false) (dec_f (by omega)))) ?_
      clear H a; intro a H
      refine e_nil (hR.out _ _ ?_)
      clear hR R
      refine hK10 _ _ ?_
      clear hK10 K10
      refine c_false H rfl ?_
      refine wp_exit ?_
      refine t_exit ?_
      refine t_exit ?_
      refine b_hit ?_
      clear hK9 K9
      refine hK3 _ _ ?_
      clear hK3 K3
      refine wp_seq_k (fun K11 hK11 => ?_)
      refine e_region (fun R hR => ?_)
      refine e_op H rfl rfl (by decide) (x_move H rfl rfl) ?_
      clear H a; intro a H
      refine e_op H rfl rfl (by decide) (x_assign H rfl rfl) ?_
      clear H a; intro a H
      refine e_nil (hR.out _ _ ?_)
      clear hR R
      refine hK11 _ _ ?_
      clear hK11 K11
      refine wp_ret ?_
      refine ret1 H rfl rfl ⟨g, rfl, ?_, by omega, E1⟩
      simpa using B1
theorem padded_eq (p : List UInt8) (m : Nat) (hm : p.length = m) : p ++ [128] ++ List.replicate (padn m - 1) 0 ++ be8 (8 * m % 18446744073709551616) = padded p := by
  subst hm
  unfold padded pad1
  simp
theorem pad_any (ad : Option Addr) (m c : Nat) (p : List UInt8) (w0 : World) (hp : Bs w0 ad m p) (hn : ad = none → c = 0) (hm : m ≤ 70368744177664) :
    Calls Tryd.prog 40 #[.slice ad m c] w0 fun e w' => ∃ a2 c2 n2, e = .returned (.slice a2 n2 c2) ∧ Ow w' w0.heap.size a2 n2 c2 (padded p) ∧ Ext w0 w' := by
  have hpp0 := padn_pos m
  refine calls_has (args := [.slice ad m c]) Tryd.func40 rfl Tryd.ntmps40 (Nat.le_of_ble_eq_true rfl) (fun a H => ?_)
  simp only [argl, Nat.reduceAdd] at H
  refine wp_seq_k (fun K1 hK1 => ?_)
  refine e_region (fun R hR => ?_)
  refine e_op H rfl rfl (by decide) (x_assign H rfl rfl) ?_
  clear H a; intro a H
  refine e_nil (hR.out _ _ ?_)
  clear hR R
  refine hK1 _ _ ?_
  clear hK1 K1
  refine wp_seq_k (fun K2 hK2 => ?_)
  refine e_region (fun R hR => ?_)
  refine e_op H rfl rfl (by decide) (x_buildSlice H rfl rfl (bs0 _)) ?_
  clear H a; intro a H
  have Z := Ow.zero w0 w0.heap.size rfl w0.heap.size (Nat.le_refl _)
  have E1 := (Ext.refl w0).al (.cells #[] 5)
  have hsz0 := E1.sz
  obtain ⟨a1, c1, w1, hr1, O1, G1⟩ := run_app (w0.alloc (.cells #[] 5)) 22 w0.heap.size (some ⟨w0.heap.size, 0, none⟩) 0 0 [] ad m c p Z (E1.bs hp) (by omega) (by omega) hn
  have E2 := E1.app Z (Nat.le_refl _) G1
  rw [List.nil_append, Nat.zero_add] at O1
  rw [Nat.zero_add] at hr1
  refine e_op H rfl rfl (by decide) (x_move H rfl rfl) ?_
  clear H a; intro a H
  refine e_op H rfl rfl (by decide) (x_builtin H rfl rfl (fun cs => bi_app hr1)) ?_
  clear H a; intro a H
  refine e_op H rfl rfl (by decide) (x_buildSlice H rfl rfl (bs1 128 _)) ?_
  clear H a; intro a H
  obtain ⟨a2, c2, w2, hr2, O2, G2⟩ := run_app (w1.alloc (.cells #[.int .u8 128] 5)) 22 w0.heap.size a1 m c1 p (some ⟨w1.heap.size, 0, none⟩) 1 1 [128] (row_al O1 _) (Bs.new w1 #[.int .u8 128] 1 [128] rfl rfl) (by omega) (by have := E2.sz; simp; omega) (fun h => by cases h)
  have E3 := (E2.al (.cells #[.int .u8 128] 5)).app (row_al O1 _) (Nat.le_refl _) G2
  refine e_op H rfl rfl (by decide) (x_builtin H rfl rfl (fun cs => bi_app hr2)) ?_
  clear H a; intro a H
  refine e_op H rfl rfl (by decide) (x_assign H rfl rfl) ?_
  clear H a; intro a H
  refine e_nil (hR.out _ _ ?_)
  clear hR R
  refine hK2 _ _ ?_
  clear hK2 K2
  refine wp_seq_k (fun K3 hK3 => ?_)
  refine wp_block ?_
  refine wp_loop_ghost (fun n a w => ∃ (k : Nat) (a2 : Option Addr) (c2 : Nat), k ≤ padn m - 1 ∧ n = padn m - k ∧ Has a 23 [(0, .slice ad m c), (3, .slice a2 (m + 1 + k) c2)] ∧ Ow w w0.heap.size a2 (m + 1 + k) c2 (p ++ [128] ++ List.replicate k 0) ∧ Ext w0 w) (padn m) ?_ ?_
  · skip
    exact ⟨0, a2, c2, by omega, rfl, H.sub ⟨rfl, rfl, trivial⟩, by simpa using O2, E3⟩
  · skip
    clear H a O1 O2 E1 E2 E3 Z G1 G2 hr1 hr2
    intro n a w hI
    clear c2 w2 c1 w1
    clear a2 a1
    obtain ⟨k, a2, c2, hk, rfl, H, O, E⟩ := hI
    have hpl := hp.leng
    have hsz := E.sz
    have hpp := padn_pos m
    rcases Nat.lt_or_ge k (padn m - 1) with hlt | hge
    · skip
      have hne : (m + 1 + k) % 64 ≠ 56 := by unfold padn at hlt; split at hlt <;> omega
      refine wp_seq_k (fun K4 hK4 => ?_)
      refine wp_seq_k (fun K5 hK5 => ?_)
      refine e_region (fun R hR => ?_)
      refine e_op H rfl rfl (by decide) (x_move H rfl rfl) ?_
      clear H a; intro a H
      refine e_op H rfl rfl (by decide) (x_builtin H rfl rfl (fun cs => len_sl Tryd.underlying22)) ?_
      clear H a; intro a H
      refine e_op H rfl rfl (by decide) (x_binI H rfl rfl rfl (b_rem (z := (((m + 1 + k) % 64 : Nat) : Int)) (by decide) (by rw [Int.tmod_eq_emod_of_nonneg (by omega)]; omega))) ?_
      clear H a; intro a H
      refine e_op H rfl rfl (by decide) (x_binI H rfl rfl rfl (b_neq (b := true) (bne_t (by omega)))) ?_
      clear H a; intro a H
      refine e_nil (hR.out _ _ ?_)
      clear hR R
      refine hK5 _ _ ?_
      clear hK5 K5
      refine c_true H rfl ?_
      refine wp_skip ?_
      refine hK4 _ _ ?_
      clear hK4 K4
      refine wp_block ?_
      refine e_region (fun R hR => ?_)
      refine e_op H rfl rfl (by decide) (x_move H rfl rfl) ?_
      clear H a; intro a H
      refine e_op H rfl rfl (by decide) (x_buildSlice H rfl rfl (bs1 0 _)) ?_
      clear H a; intro a H
      obtain ⟨a3, c3, w3, hr3, O3, G3⟩ := run_app (w.alloc (.cells #[.int .u8 0] 5)) 22 w0.heap.size a2 (m + 1 + k) c2 _ (some ⟨w.heap.size, 0, none⟩) 1 1 [0] (row_al O _) (Bs.new w #[.int .u8 0] 1 [0] rfl rfl) (by omega) (by simp; omega) (fun h => by cases h)
      have E4 := (E.al (.cells #[.int .u8 0] 5)).app (row_al O _) (Nat.le_refl _) G3
      refine e_op H rfl rfl (by decide) (x_builtin H rfl rfl (fun cs => bi_app hr3)) ?_
      clear H a; intro a H
      refine e_op H rfl rfl (by decide) (x_assign H rfl rfl) ?_
      clear H a; intro a H
      refine e_nil (hR.out _ _ ?_)
      clear hR R
      refine ⟨padn m - (k + 1), by omega, k + 1, a3, c3, by omega, rfl, H.sub ⟨rfl, rfl, trivial⟩, ?_, E4⟩
      rw [show List.replicate (k + 1) (0 : UInt8) = List.replicate k 0 ++ [0] by rw [← List.replicate_append_replicate]; rfl, ← List.append_assoc]
      exact O3
    · skip
      obtain rfl : k = padn m - 1 := by omega
      have heq : (m + 1 + (padn m - 1)) % 64 = 56 := by unfold padn; split <;> omega
      refine wp_seq_k (fun K6 hK6 => ?_)
      refine wp_seq_k (fun K7 hK7 => ?_)
      refine e_region (fun R hR => ?_)
      refine e_op H rfl rfl (by decide) (x_move H rfl rfl) ?_
      clear H a; intro a H
      refine e_op H rfl rfl (by decide) (x_builtin H rfl rfl (fun cs => len_sl Tryd.underlying22)) ?_
      clear H a; intro a H
      refine e_op H rfl rfl (by decide) (x_binI H rfl rfl rfl (b_rem (z := (((m + 1 + (padn m - 1)) % 64 : Nat) : Int)) (by decide) (by rw [Int.tmod_eq_emod_of_nonneg (by omega)]; omega))) ?_
      clear H a; intro a H
      refine e_op H rfl rfl (by decide) (x_binI H rfl rfl rfl (b_neq (b := false) (bne_f (by omega)))) ?_
      clear H a; intro a H
      refine e_nil (hR.out _ _ ?_)
      clear hR R
      refine hK7 _ _ ?_
      clear hK7 K7
      refine c_false H rfl ?_
      refine wp_exit ?_
      refine t_exit ?_
      refine t_exit ?_
      refine b_hit ?_
      clear hK6 K6
      refine hK3 _ _ ?_
      clear hK3 K3
      refine wp_seq_k (fun K8 hK8 => ?_)
      refine e_region (fun R hR => ?_)
      refine e_op H rfl rfl (by decide) (x_move H rfl rfl) ?_
      clear H a; intro a H
      refine e_op H rfl rfl (by decide) (x_move H rfl rfl) ?_
      clear H a; intro a H
      refine e_op H rfl rfl (by decide) (x_builtin H rfl rfl (fun cs => len_sl Tryd.underlying22)) ?_
      clear H a; intro a H
      refine e_op H rfl rfl (by decide) (x_conv H rfl rfl (c_int (z := ((m : Nat) : Int)) Tryd.underlying3 Tryd.underlying39 (wrap_u64_small _ (by omega) (by omega)))) ?_
      clear H a; intro a H
      refine e_op H rfl rfl (by decide) (x_binI H rfl rfl rfl (b_mul (z := ((8 * m % 18446744073709551616 : Nat) : Int)) (by rw [IntKind.wrap_u64]; omega))) ?_
      clear H a; intro a H
      refine e_callq H rfl rfl (by decide) rfl rfl (Tryd.call46 _) (long_any (8 * m % 18446744073709551616) w (by omega)) ?_
      clear H a
      rintro e w5 ⟨g5, rfl, B5, hg5, E5⟩
      refine ⟨_, rfl, fun a H => ?_⟩
      have O5 := E5.row O
      obtain ⟨a6, c6, w6, hr6, O6, G6⟩ := run_app w5 22 w0.heap.size a2 (m + 1 + (padn m - 1)) c2 _ (some ⟨g5, 0, none⟩) 8 8 (be8 (8 * m % 18446744073709551616)) O5 (B5.bs (be8_len _)) (by omega) (by have := E5.sz; omega) (fun h => by cases h)
      have E6 := (E.tr E5).app O5 (Nat.le_refl _) G6
      refine e_op H rfl rfl (by decide) (x_builtin H rfl rfl (fun cs => bi_app hr6)) ?_
      clear H a; intro a H
      refine e_op H rfl rfl (by decide) (x_assign H rfl rfl) ?_
      clear H a; intro a H
      refine e_nil (hR.out _ _ ?_)
      clear hR R
      refine hK8 _ _ ?_
      clear hK8 K8
      refine wp_ret ?_
      refine ret1 H rfl rfl ⟨a6, c6, _, rfl, ?_, E6⟩
      rw [padded_eq p m hpl] at O6
      exact O6
end Go.Proofs.YtknllmcpogoeoaaDoor
