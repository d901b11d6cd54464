/- The clocks' length and order, walked. -/
import Derived.Test.YtknllmcpogoeoaaR3
namespace Go.Proofs.Ytknllmcpogoeoaa
open Go.RowKit
set_option linter.unusedVariables false
set_option linter.unusedSimpArgs false
set_option maxRecDepth 100000
/-- a clock's cells -/
def u64s (ws : List Nat) : List Value := ws.map fun (x : Nat) => Value.int .u64 (x : Int)
theorem u64s_len (ws : List Nat) : (u64s ws).length = ws.length := by simp [u64s]
theorem u64s_get (ws : List Nat) (k : Nat) (h : k < ws.length) : (u64s ws)[k]? = some (.int .u64 ((ws[k]?.getD 0 : Nat) : Int)) := by
  simp [u64s, List.getElem?_eq_getElem h]
/-- behind the last word that is not zero -/
def clen (ws : List Nat) : Nat → Nat
  | 0 => 0
  | k + 1 => if ws[k]?.getD 0 = 0 then clen ws k else k + 1
theorem clen_le (ws : List Nat) : ∀ k, clen ws k ≤ k
  | 0 => Nat.le_refl _
  | k + 1 => by unfold clen; split; have := clen_le ws k; omega; exact Nat.le_refl _
theorem fa88_0 (b : Nat) (w : World) : (Instr.fieldAt 88 (.pointer (some ⟨b, 0, none⟩)) 0).run Try.prog w = .ok (.pointer (some ⟨b, 0, none⟩)) w := by kernel_rfl
theorem under86 : Try.prog.underlying 86 = some (.array 16 56) := by kernel_rfl
theorem clen_any (xs : List Nat) (hx16 : xs.length = 16) (w0 : World) : Calls Try.prog 138 #[.agg (u64s xs).toArray] w0 fun e w' => e = .returned (.int .i64 ((clen xs 16 : Nat) : Int)) ∧ Ext w0 w' := by
  refine calls_has (args := [.agg (u64s xs).toArray]) Try.func138 rfl Try.ntmps138 (Nat.le_of_ble_eq_true rfl) (fun a H => ?_)
  simp only [argl, Nat.reduceAdd] at H
  refine wp_seq_k (fun K1 hK1 => ?_)
  refine e_region (fun R hR => ?_)
  refine e_op H rfl rfl (by decide) (x_box H rfl rfl bx_new) ?_
  clear H a; intro a H
  have T := Blk.new w0 88 (u64s xs)
  have E := (Ext.refl w0).al (.cells (u64s xs).toArray 88)
  obtain ⟨g1, hg1⟩ : ∃ g, g = w0.heap.size := ⟨_, rfl⟩
  rw [← hg1] at H T
  generalize w0.alloc (.cells (u64s xs).toArray 88) = w1 at *
  refine e_op H rfl rfl (by decide) (x_assign H rfl rfl) ?_
  clear H a; intro a H
  refine e_nil (hR.out _ _ ?_)
  clear hR R
  refine hK1 _ _ ?_
  clear hK1 K1
  refine wp_seq_k (fun K2 hK2 => ?_)
  refine e_region (fun R hR => ?_)
  refine e_op H rfl rfl (by decide) (x_assign H rfl rfl) ?_
  clear H a; intro a H
  refine e_nil (hR.out _ _ ?_)
  clear hR R
  refine hK2 _ _ ?_
  clear hK2 K2
  refine wp_seq_k (fun K3 hK3 => ?_)
  refine wp_seq_k (fun K4 hK4 => ?_)
  refine e_region (fun R hR => ?_)
  refine e_op H rfl rfl (by decide) (x_move H rfl rfl) ?_
  clear H a; intro a H
  refine e_nil (hR.out _ _ ?_)
  clear hR R
  refine hK4 _ _ ?_
  clear hK4 K4
  refine wp_block ?_
  refine wp_loop_ghost (fun n a w => ∃ i : Nat, i ≤ 16 ∧ n = 16 - i ∧ Has a 17 [(1, .pointer (some ⟨g1, 0, none⟩)), (3, .int .i64 ((clen xs i : Nat) : Int)), (5, .int .i64 (i : Int))] ∧ Blk w g1 88 (u64s xs) ∧ Ext w0 w) (16) ?_ ?_
  · skip
    exact ⟨0, by omega, rfl, H.sub ⟨rfl, rfl, rfl, trivial⟩, T, E⟩
  · skip
    clear H a T E
    intro n a w hI
    clear w1
    obtain ⟨i, hi, rfl, H, T, E⟩ := hI
    rcases (show (i < 16 ∧ xs[i]?.getD 0 = 0) ∨ (i < 16 ∧ xs[i]?.getD 0 ≠ 0) ∨ i = 16 by omega) with ⟨hlt, hz⟩ | ⟨hlt, hz⟩ | rfl
    · skip
      have hx : w.cell? ⟨g1, i, none⟩ = some (.int .u64 ((xs[i]?.getD 0 : Nat) : Int)) := by rw [T.cell]; exact u64s_get xs i (by omega)
      refine wp_seq_k (fun K5 hK5 => ?_)
      refine e_region (fun R hR => ?_)
      refine e_op H rfl rfl (by decide) (x_binI H rfl rfl rfl (b_lss (b := true) (dec_t (by omega)))) ?_
      clear H a; intro a H
      refine e_nil (hR.out _ _ ?_)
      clear hR R
      refine hK5 _ _ ?_
      clear hK5 K5
      refine wp_seq_k (fun K6 hK6 => ?_)
      refine c_true H rfl ?_
      refine wp_skip ?_
      refine hK6 _ _ ?_
      clear hK6 K6
      refine wp_seq_k (fun K7 hK7 => ?_)
      refine wp_block ?_
      refine wp_seq_k (fun K8 hK8 => ?_)
      refine e_region (fun R hR => ?_)
      refine e_op H rfl rfl (by decide) (x_move H rfl rfl) ?_
      clear H a; intro a H
      refine e_op H rfl rfl (by decide) (x_assign H rfl rfl) ?_
      clear H a; intro a H
      refine e_nil (hR.out _ _ ?_)
      clear hR R
      refine hK8 _ _ ?_
      clear hK8 K8
      refine wp_seq_k (fun K9 hK9 => ?_)
      refine e_region (fun R hR => ?_)
      refine e_op H rfl rfl (by decide) (x_move H rfl rfl) ?_
      clear H a; intro a H
      refine e_op H rfl rfl (by decide) (x_fieldAddr H rfl rfl (fa88_0 _ _)) ?_
      clear H a; intro a H
      refine e_op H rfl rfl (by decide) (x_indexAddr H rfl rfl rfl (i_arr0 (m := i) under86 Try.sizeOf56 rfl hlt)) ?_
      clear H a; intro a H
      refine e_op H rfl rfl (by decide) (x_load H rfl rfl (l_cell Try.isAgg56 (hx))) ?_
      clear H a; intro a H
      refine e_op H rfl rfl (by decide) (x_binI H rfl rfl rfl (b_neq (b := false) (bne_f (by omega)))) ?_
      clear H a; intro a H
      refine e_nil (hR.out _ _ ?_)
      clear hR R
      refine hK9 _ _ ?_
      clear hK9 K9
      refine c_false H rfl ?_
      refine wp_skip ?_
      refine hK7 _ _ ?_
      clear hK7 K7
      refine e_region (fun R hR => ?_)
      refine e_op H rfl rfl (by decide) (x_binI H rfl rfl rfl (b_add (z := ((i + 1 : Nat) : Int)) (by rw [IntKind.wrap_i64]; omega))) ?_
      clear H a; intro a H
      refine e_op H rfl rfl (by decide) (x_move H rfl rfl) ?_
      clear H a; intro a H
      refine e_nil (hR.out _ _ ?_)
      clear hR R
      refine ⟨16 - (i + 1), by omega, i + 1, by omega, rfl, ?_, T, E⟩
      rw [show clen xs (i + 1) = clen xs i by conv => lhs; unfold clen; rw [if_pos hz]]
      exact H.sub ⟨rfl, rfl, rfl, trivial⟩
    · skip
      have hx : w.cell? ⟨g1, i, none⟩ = some (.int .u64 ((xs[i]?.getD 0 : Nat) : Int)) := by rw [T.cell]; exact u64s_get xs i (by omega)
      refine wp_seq_k (fun K10 hK10 => ?_)
      refine e_region (fun R hR => ?_)
      refine e_op H rfl rfl (by decide) (x_binI H rfl rfl rfl (b_lss (b := true) (dec_t (by omega)))) ?_
      clear H a; intro a H
      refine e_nil (hR.out _ _ ?_)
      clear hR R
      refine hK10 _ _ ?_
      clear hK10 K10
      refine wp_seq_k (fun K11 hK11 => ?_)
      refine c_true H rfl ?_
      refine wp_skip ?_
      refine hK11 _ _ ?_
      clear hK11 K11
      refine wp_seq_k (fun K12 hK12 => ?_)
      refine wp_block ?_
      refine wp_seq_k (fun K13 hK13 => ?_)
      refine e_region (fun R hR => ?_)
      refine e_op H rfl rfl (by decide) (x_move H rfl rfl) ?_
      clear H a; intro a H
      refine e_op H rfl rfl (by decide) (x_assign H rfl rfl) ?_
      clear H a; intro a H
      refine e_nil (hR.out _ _ ?_)
      clear hR R
      refine hK13 _ _ ?_
      clear hK13 K13
      refine wp_seq_k (fun K14 hK14 => ?_)
      refine e_region (fun R hR => ?_)
      refine e_op H rfl rfl (by decide) (x_move H rfl rfl) ?_
      clear H a; intro a H
      refine e_op H rfl rfl (by decide) (x_fieldAddr H rfl rfl (fa88_0 _ _)) ?_
      clear H a; intro a H
      refine e_op H rfl rfl (by decide) (x_indexAddr H rfl rfl rfl (i_arr0 (m := i) under86 Try.sizeOf56 rfl hlt)) ?_
      clear H a; intro a H
      refine e_op H rfl rfl (by decide) (x_load H rfl rfl (l_cell Try.isAgg56 (hx))) ?_
      clear H a; intro a H
      refine e_op H rfl rfl (by decide) (x_binI H rfl rfl rfl (b_neq (b := true) (by simp; omega))) ?_
      clear H a; intro a H
      refine e_nil (hR.out _ _ ?_)
      clear hR R
      refine hK14 _ _ ?_
      clear hK14 K14
      refine c_true H rfl ?_
      refine e_region (fun R hR => ?_)
      refine e_op H rfl rfl (by decide) (x_move H rfl rfl) ?_
      clear H a; intro a H
      refine e_op H rfl rfl (by decide) (x_binI H rfl rfl rfl (b_add (z := ((i + 1 : Nat) : Int)) (by rw [IntKind.wrap_i64]; omega))) ?_
      clear H a; intro a H
      refine e_op H rfl rfl (by decide) (x_assign H rfl rfl) ?_
      clear H a; intro a H
      refine e_nil (hR.out _ _ ?_)
      clear hR R
      refine hK12 _ _ ?_
      clear hK12 K12
      refine e_region (fun R hR => ?_)
      refine e_op H rfl rfl (by decide) (x_binI H rfl rfl rfl (b_add (z := ((i + 1 : Nat) : Int)) (by rw [IntKind.wrap_i64]; omega))) ?_
      clear H a; intro a H
      refine e_op H rfl rfl (by decide) (x_move H rfl rfl) ?_
      clear H a; intro a H
      refine e_nil (hR.out _ _ ?_)
      clear hR R
      refine ⟨16 - (i + 1), by omega, i + 1, by omega, rfl, ?_, T, E⟩
      rw [show clen xs (i + 1) = i + 1 by conv => lhs; unfold clen; rw [if_neg hz]]
      exact H.sub ⟨rfl, rfl, rfl, trivial⟩
    · skip
      skip
      refine wp_seq_k (fun K15 hK15 => ?_)
      refine e_region (fun R hR => ?_)
      refine e_op H rfl rfl (by decide) (x_binI H rfl rfl rfl (b_lss (b := false) (dec_f (by omega)))) ?_
      clear H a; intro a H
      refine e_nil (hR.out _ _ ?_)
      clear hR R
      refine hK15 _ _ ?_
      clear hK15 K15
      refine wp_seq_k (fun K16 hK16 => ?_)
      refine c_false H rfl ?_
      refine wp_exit ?_
      refine t_exit ?_
      refine t_exit ?_
      refine b_hit ?_
      clear hK16 K16
      refine hK3 _ _ ?_
      clear hK3 K3
      refine wp_seq_k (fun K17 hK17 => ?_)
      refine e_region (fun R hR => ?_)
      refine e_op H rfl rfl (by decide) (x_move H rfl rfl) ?_
      clear H a; intro a H
      refine e_op H rfl rfl (by decide) (x_assign H rfl rfl) ?_
      clear H a; intro a H
      refine e_nil (hR.out _ _ ?_)
      clear hR R
      refine hK17 _ _ ?_
      clear hK17 K17
      refine wp_ret ?_
      exact ret1 H rfl rfl ⟨rfl, E⟩
theorem leq_any (xs ys : List Nat) (hx16 : xs.length = 16) (hy16 : ys.length = 16) (w0 : World) : Calls Try.prog 140 #[.agg (u64s xs).toArray, .agg (u64s ys).toArray] w0 fun e w' => ∃ b : Bool, e = .returned (.bool b) ∧ Ext w0 w' := by
  refine calls_has (args := [.agg (u64s xs).toArray, .agg (u64s ys).toArray]) Try.func140 rfl Try.ntmps140 (Nat.le_of_ble_eq_true rfl) (fun a H => ?_)
  simp only [argl, Nat.reduceAdd] at H
  refine wp_seq_k (fun K1 hK1 => ?_)
  refine e_region (fun R hR => ?_)
  refine e_op H rfl rfl (by decide) (x_box H rfl rfl bx_new) ?_
  clear H a; intro a H
  have T1 := Blk.new w0 88 (u64s xs)
  have E1 := (Ext.refl w0).al (.cells (u64s xs).toArray 88)
  obtain ⟨g1, hg1⟩ : ∃ g, g = w0.heap.size := ⟨_, rfl⟩
  rw [← hg1] at H T1
  generalize w0.alloc (.cells (u64s xs).toArray 88) = w1 at *
  refine e_op H rfl rfl (by decide) (x_box H rfl rfl bx_new) ?_
  clear H a; intro a H
  have T2 := Blk.new w1 88 (u64s ys)
  replace T1 := T1.alloc (.cells (u64s ys).toArray 88)
  have E := E1.al (.cells (u64s ys).toArray 88)
  obtain ⟨g2, hg2⟩ : ∃ g, g = w1.heap.size := ⟨_, rfl⟩
  rw [← hg2] at H T2
  generalize w1.alloc (.cells (u64s ys).toArray 88) = w2 at *
  refine e_op H rfl rfl (by decide) (x_assign H rfl rfl) ?_
  clear H a; intro a H
  refine e_nil (hR.out _ _ ?_)
  clear hR R
  refine hK1 _ _ ?_
  clear hK1 K1
  refine wp_seq_k (fun K2 hK2 => ?_)
  refine wp_seq_k (fun K3 hK3 => ?_)
  refine e_region (fun R hR => ?_)
  refine e_op H rfl rfl (by decide) (x_move H rfl rfl) ?_
  clear H a; intro a H
  refine e_nil (hR.out _ _ ?_)
  clear hR R
  refine hK3 _ _ ?_
  clear hK3 K3
  refine wp_block ?_
  refine wp_loop_ghost (fun n a w => ∃ i : Nat, i ≤ 16 ∧ n = 16 - i ∧ Has a 19 [(2, .pointer (some ⟨g1, 0, none⟩)), (3, .pointer (some ⟨g2, 0, none⟩)), (6, .int .i64 (i : Int))] ∧ Blk w g1 88 (u64s xs) ∧ Blk w g2 88 (u64s ys) ∧ Ext w0 w) (16) ?_ ?_
  · skip
    exact ⟨0, by omega, rfl, H.sub ⟨rfl, rfl, rfl, trivial⟩, T1, T2, E⟩
  · skip
    clear H a T1 T2 E
    intro n a w hI
    clear w2
    obtain ⟨i, hi, rfl, H, T1, T2, E⟩ := hI
    rcases (show (i < 16 ∧ xs[i]?.getD 0 > ys[i]?.getD 0) ∨ (i < 16 ∧ ¬ xs[i]?.getD 0 > ys[i]?.getD 0) ∨ i = 16 by omega) with ⟨hlt, hz⟩ | ⟨hlt, hz⟩ | rfl
    · skip
      have hx : w.cell? ⟨g1, i, none⟩ = some (.int .u64 ((xs[i]?.getD 0 : Nat) : Int)) := by rw [T1.cell]; exact u64s_get xs i (by omega)
      have hy : w.cell? ⟨g2, i, none⟩ = some (.int .u64 ((ys[i]?.getD 0 : Nat) : Int)) := by rw [T2.cell]; exact u64s_get ys i (by omega)
      refine wp_seq_k (fun K4 hK4 => ?_)
      refine e_region (fun R hR => ?_)
      refine e_op H rfl rfl (by decide) (x_binI H rfl rfl rfl (b_lss (b := true) (dec_t (by omega)))) ?_
      clear H a; intro a H
      refine e_nil (hR.out _ _ ?_)
      clear hR R
      refine hK4 _ _ ?_
      clear hK4 K4
      refine wp_seq_k (fun K5 hK5 => ?_)
      refine c_true H rfl ?_
      refine wp_skip ?_
      refine hK5 _ _ ?_
      clear hK5 K5
      refine wp_seq_k (fun K6 hK6 => ?_)
      refine wp_block ?_
      refine wp_seq_k (fun K7 hK7 => ?_)
      refine e_region (fun R hR => ?_)
      refine e_op H rfl rfl (by decide) (x_move H rfl rfl) ?_
      clear H a; intro a H
      refine e_op H rfl rfl (by decide) (x_assign H rfl rfl) ?_
      clear H a; intro a H
      refine e_nil (hR.out _ _ ?_)
      clear hR R
      refine hK7 _ _ ?_
      clear hK7 K7
      refine wp_seq_k (fun K8 hK8 => ?_)
      refine e_quiet (by kernel_rfl) (by kernel_rfl) (fun R hR => ?_)
      refine s_op H rfl rfl (by decide) (x_move H rfl rfl) ?_
      clear H a; intro a H
      refine s_op H rfl rfl (by decide) (x_fieldAddr H rfl rfl (fa88_0 _ _)) ?_
      clear H a; intro a H
      refine s_op H rfl rfl (by decide) (x_indexAddr H rfl rfl rfl (i_arr0 (m := i) under86 Try.sizeOf56 rfl hlt)) ?_
      clear H a; intro a H
      refine s_op H rfl rfl (by decide) (x_load H rfl rfl (l_cell Try.isAgg56 (hx))) ?_
      clear H a; intro a H
      refine s_op H rfl rfl (by decide) (x_move H rfl rfl) ?_
      clear H a; intro a H
      refine s_op H rfl rfl (by decide) (x_fieldAddr H rfl rfl (fa88_0 _ _)) ?_
      clear H a; intro a H
      refine s_op H rfl rfl (by decide) (x_indexAddr H rfl rfl rfl (i_arr0 (m := i) under86 Try.sizeOf56 rfl hlt)) ?_
      clear H a; intro a H
      refine s_op H rfl rfl (by decide) (x_load H rfl rfl (l_cell Try.isAgg56 (hy))) ?_
      clear H a; intro a H
      refine s_op H rfl rfl (by decide) (x_binI H rfl rfl rfl (b_gtr (b := true) (dec_t (by omega)))) ?_
      clear H a; intro a H
      refine wpStill_nil (hR.out _ _ ?_)
      clear hR R
      refine hK8 _ _ ?_
      clear hK8 K8
      refine c_true H rfl ?_
      refine wp_seq_k (fun K9 hK9 => ?_)
      refine e_region (fun R hR => ?_)
      refine e_op H rfl rfl (by decide) (x_assign H rfl rfl) ?_
      clear H a; intro a H
      refine e_nil (hR.out _ _ ?_)
      clear hR R
      refine hK9 _ _ ?_
      clear hK9 K9
      refine wp_ret ?_
      refine b_ret ?_
      refine t_ret ?_
      refine t_ret ?_
      refine b_ret ?_
      refine t_ret ?_
      exact ret1 H rfl rfl ⟨false, rfl, E.dr⟩
    · skip
      have hx : w.cell? ⟨g1, i, none⟩ = some (.int .u64 ((xs[i]?.getD 0 : Nat) : Int)) := by rw [T1.cell]; exact u64s_get xs i (by omega)
      have hy : w.cell? ⟨g2, i, none⟩ = some (.int .u64 ((ys[i]?.getD 0 : Nat) : Int)) := by rw [T2.cell]; exact u64s_get ys i (by omega)
      refine wp_seq_k (fun K10 hK10 => ?_)
      refine e_region (fun R hR => ?_)
      refine e_op H rfl rfl (by decide) (x_binI H rfl rfl rfl (b_lss (b := true) (dec_t (by omega)))) ?_
      clear H a; intro a H
      refine e_nil (hR.out _ _ ?_)
      clear hR R
      refine hK10 _ _ ?_
      clear hK10 K10
      refine wp_seq_k (fun K11 hK11 => ?_)
      refine c_true H rfl ?_
      refine wp_skip ?_
      refine hK11 _ _ ?_
      clear hK11 K11
      refine wp_seq_k (fun K12 hK12 => ?_)
      refine wp_block ?_
      refine wp_seq_k (fun K13 hK13 => ?_)
      refine e_region (fun R hR => ?_)
      refine e_op H rfl rfl (by decide) (x_move H rfl rfl) ?_
      clear H a; intro a H
      refine e_op H rfl rfl (by decide) (x_assign H rfl rfl) ?_
      clear H a; intro a H
      refine e_nil (hR.out _ _ ?_)
      clear hR R
      refine hK13 _ _ ?_
      clear hK13 K13
      refine wp_seq_k (fun K14 hK14 => ?_)
      refine e_quiet (by kernel_rfl) (by kernel_rfl) (fun R hR => ?_)
      refine s_op H rfl rfl (by decide) (x_move H rfl rfl) ?_
      clear H a; intro a H
      refine s_op H rfl rfl (by decide) (x_fieldAddr H rfl rfl (fa88_0 _ _)) ?_
      clear H a; intro a H
      refine s_op H rfl rfl (by decide) (x_indexAddr H rfl rfl rfl (i_arr0 (m := i) under86 Try.sizeOf56 rfl hlt)) ?_
      clear H a; intro a H
      refine s_op H rfl rfl (by decide) (x_load H rfl rfl (l_cell Try.isAgg56 (hx))) ?_
      clear H a; intro a H
      refine s_op H rfl rfl (by decide) (x_move H rfl rfl) ?_
      clear H a; intro a H
      refine s_op H rfl rfl (by decide) (x_fieldAddr H rfl rfl (fa88_0 _ _)) ?_
      clear H a; intro a H
      refine s_op H rfl rfl (by decide) (x_indexAddr H rfl rfl rfl (i_arr0 (m := i) under86 Try.sizeOf56 rfl hlt)) ?_
      clear H a; intro a H
      refine s_op H rfl rfl (by decide) (x_load H rfl rfl (l_cell Try.isAgg56 (hy))) ?_
      clear H a; intro a H
      refine s_op H rfl rfl (by decide) (x_binI H rfl rfl rfl (b_gtr (b := false) (dec_f (by omega)))) ?_
      clear H a; intro a H
      refine wpStill_nil (hR.out _ _ ?_)
      clear hR R
      refine hK14 _ _ ?_
      clear hK14 K14
      refine c_false H rfl ?_
      refine wp_skip ?_
      refine hK12 _ _ ?_
      clear hK12 K12
      refine e_region (fun R hR => ?_)
      refine e_op H rfl rfl (by decide) (x_binI H rfl rfl rfl (b_add (z := ((i + 1 : Nat) : Int)) (by rw [IntKind.wrap_i64]; omega))) ?_
      clear H a; intro a H
      refine e_op H rfl rfl (by decide) (x_move H rfl rfl) ?_
      clear H a; intro a H
      refine e_nil (hR.out _ _ ?_)
      clear hR R
      exact ⟨16 - (i + 1), by omega, i + 1, by omega, rfl, H.sub ⟨rfl, rfl, rfl, trivial⟩, T1, T2, E.dr⟩
    · skip
      skip
      refine wp_seq_k (fun K15 hK15 => ?_)
      refine e_region (fun R hR => ?_)
      refine e_op H rfl rfl (by decide) (x_binI H rfl rfl rfl (b_lss (b := false) (dec_f (by omega)))) ?_
      clear H a; intro a H
      refine e_nil (hR.out _ _ ?_)
      clear hR R
      refine hK15 _ _ ?_
      clear hK15 K15
      refine wp_seq_k (fun K16 hK16 => ?_)
      refine c_false H rfl ?_
      refine wp_exit ?_
      refine t_exit ?_
      refine t_exit ?_
      refine b_hit ?_
      clear hK16 K16
      refine hK2 _ _ ?_
      clear hK2 K2
      refine wp_seq_k (fun K17 hK17 => ?_)
      refine e_region (fun R hR => ?_)
      refine e_op H rfl rfl (by decide) (x_assign H rfl rfl) ?_
      clear H a; intro a H
      refine e_nil (hR.out _ _ ?_)
      clear hR R
      refine hK17 _ _ ?_
      clear hK17 K17
      refine wp_ret ?_
      exact ret1 H rfl rfl ⟨true, rfl, E⟩
end Go.Proofs.Ytknllmcpogoeoaa
