/- One block of SHA-256, walked: the method mix. -/
import Derived.Test.YtknllmcpogoeoaaDoorHs
import Derived.Test.YtknllmcpogoeoaaDoorD1
namespace Go.Proofs.YtknllmcpogoeoaaDoor
open Go.RowKit
set_option linter.unusedVariables false
set_option linter.unusedSimpArgs false
set_option maxRecDepth 100000
set_option maxHeartbeats 4000000 in
theorem mix_any (g : Nat) (s : S8) (bs : List UInt8) (tot : Nat) (w0 : World) (hs : Hsh w0 g s.l bs tot) (K0 : Kc w0) :
    Calls Tryd.prog 43 #[.pointer (some ⟨g, 0, none⟩)] w0 fun e w' => e = .returned (.tuple #[]) ∧ Hsh w' g (cmpr s bs).l bs tot ∧ Frm [g] w0 w' := by
  refine calls_has (args := [.pointer (some ⟨g, 0, none⟩)]) Tryd.func43 rfl Tryd.ntmps43 (Nat.le_of_ble_eq_true rfl) (fun a H => ?_)
  simp only [argl, Nat.reduceAdd] at H
  refine wp_seq_k (fun K1 hK1 => ?_)
  refine e_region (fun R hR => ?_)
  refine e_op H rfl rfl (by decide) (x_alloc H rfl (al_new (z91 _))) ?_
  clear H a; intro a H
  have B2 := Blk.new w0 91 (u32s (List.replicate 64 0#32))
  have E2 := (Ext.refl w0).al (.cells (u32s (List.replicate 64 0#32)).toArray 91)
  obtain ⟨g2, hg2⟩ : ∃ g2, g2 = w0.heap.size := ⟨_, rfl⟩
  rw [← hg2] at H B2
  generalize w0.alloc (.cells (u32s (List.replicate 64 0#32)).toArray 91) = w at *
  refine e_nil (hR.out _ _ ?_)
  clear hR R
  refine hK1 _ _ ?_
  clear hK1 K1
  refine wp_seq_k (fun K2 hK2 => ?_)
  refine wp_seq_k (fun K3 hK3 => ?_)
  refine e_region (fun R hR => ?_)
  refine e_op H rfl rfl (by decide) (x_move H rfl rfl) ?_
  clear H a; intro a H
  refine e_nil (hR.out _ _ ?_)
  clear hR R
  refine hK3 _ _ ?_
  clear hK3 K3
  refine wp_block ?_
  refine wp_loop_ghost (fun n a w => ∃ i : Nat, i ≤ 16 ∧ n = 16 - i ∧ Has a 201 [(0, .pointer (some ⟨g, 0, none⟩)), (2, .pointer (some ⟨g2, 0, none⟩)), (22, .int .i64 (i : Int))] ∧ Blk w g2 91 (u32s (sch0 bs i ++ List.replicate (64 - i) 0#32)) ∧ Ext w0 w) (16) ?_ ?_
  · skip
    exact ⟨0, by omega, rfl, H.sub ⟨rfl, rfl, rfl, trivial⟩, B2, E2⟩
  · skip
    clear B2 E2 H a w
    intro n a w hI
    obtain ⟨i, hi, rfl, H, B2, E2⟩ := hI
    rcases Nat.lt_or_ge i 16 with hlt | hge
    · skip
      have hb := bt_lt bs
      have hi : i < 16 := hlt
      refine wp_seq_k (fun K4 hK4 => ?_)
      refine e_region (fun R hR => ?_)
      refine e_op H rfl rfl (by decide) (x_binI H rfl rfl rfl (b_lss (b := true) (dec_t (by omega)))) ?_
      clear H a; intro a H
      refine e_nil (hR.out _ _ ?_)
      clear hR R
      refine hK4 _ _ ?_
      clear hK4 K4
      refine wp_seq_k (fun K5 hK5 => ?_)
      refine c_true H rfl ?_
      refine wp_skip ?_
      refine hK5 _ _ ?_
      clear hK5 K5
      refine wp_seq_k (fun K6 hK6 => ?_)
      refine wp_block ?_
      refine wp_seq_k (fun K7 hK7 => ?_)
      refine e_region (fun R hR => ?_)
      refine e_op H rfl rfl (by decide) (x_move H rfl rfl) ?_
      clear H a; intro a H
      refine e_op H rfl rfl (by decide) (x_assign H rfl rfl) ?_
      clear H a; intro a H
      refine e_nil (hR.out _ _ ?_)
      clear hR R
      refine hK7 _ _ ?_
      clear hK7 K7
      refine wp_seq_k (fun K8 hK8 => ?_)
      refine e_region (fun R hR => ?_)
      refine e_op H rfl rfl (by decide) (x_move H rfl rfl) ?_
      clear H a; intro a H
      refine e_op H rfl rfl (by decide) (x_nilCheck H rfl rfl) ?_
      clear H a; intro a H
      refine e_op H rfl rfl (by decide) (x_fieldAddr H rfl rfl (fa74_1 _ _)) ?_
      clear H a; intro a H
      refine e_op H rfl rfl (by decide) (x_move H rfl rfl) ?_
      clear H a; intro a H
      refine e_op H rfl rfl (by decide) (x_binI H rfl rfl rfl (b_mul (z := ((4 * i : Nat) : Int)) (by rw [IntKind.wrap_i64]; omega))) ?_
      clear H a; intro a H
      refine e_op H rfl rfl (by decide) (x_move H rfl rfl) ?_
      clear H a; intro a H
      refine e_op H rfl rfl (by decide) (x_binI H rfl rfl rfl (b_mul (z := ((4 * i : Nat) : Int)) (by rw [IntKind.wrap_i64]; omega))) ?_
      clear H a; intro a H
      refine e_op H rfl rfl (by decide) (x_binI H rfl rfl rfl (b_add (z := ((4 * i + 4 : Nat) : Int)) (by rw [IntKind.wrap_i64]; omega))) ?_
      clear H a; intro a H
      refine e_op H rfl rfl (by decide) (x_slice H rfl rfl rfl rfl (sl_arr (lo := 4 * i) (hi := 4 * i + 4) Tryd.underlying72 Tryd.sizeOf5 rfl rfl (by omega) (by omega) (by omega))) ?_
      clear H a; intro a H
      have HS := hs.ext E2
      rw [show 4 * i + 4 - 4 * i = 4 by omega] at H
      refine e_op H rfl rfl (by decide) (x_assign H rfl rfl) ?_
      clear H a; intro a H
      refine e_nil (hR.out _ _ ?_)
      clear hR R
      refine hK8 _ _ ?_
      clear hK8 K8
      refine e_tail 24 (by kernel_rfl) (by kernel_rfl) (fun R hR => ?_)
      simp only [List.take_succ_cons, List.take_zero, List.drop_succ_cons, List.drop_zero]
      refine s_op H rfl rfl (by decide) (x_move H rfl rfl) ?_
      clear H a; intro a H
      refine s_op H rfl rfl (by decide) (x_move H rfl rfl) ?_
      clear H a; intro a H
      refine s_op H rfl rfl (by decide) (x_indexAddr H rfl rfl rfl (i_sl (m := 0) Tryd.underlying22 Tryd.sizeOf5 (rfl) (by omega))) ?_
      clear H a; intro a H
      refine s_op H rfl rfl (by decide) (x_load H rfl rfl (l_cell Tryd.isAgg5 (HS.byte2 (4 * i) 0 (by omega)))) ?_
      clear H a; intro a H
      refine s_op H rfl rfl (by decide) (x_conv H rfl rfl (c_int (z := (bt bs (4 * i + 0) : Int)) Tryd.underlying5 Tryd.underlying66 (wrap_u32_small _ (by omega) (by have := hb (4 * i + 0); omega)))) ?_
      clear H a; intro a H
      refine s_op H rfl rfl (by decide) (x_binI H rfl rfl rfl (b_shl (z := (bt bs (4 * i + 0) : Int) * 16777216) (by decide) (sh24 _ (hb _)))) ?_
      clear H a; intro a H
      refine s_op H rfl rfl (by decide) (x_move H rfl rfl) ?_
      clear H a; intro a H
      refine s_op H rfl rfl (by decide) (x_indexAddr H rfl rfl rfl (i_sl (m := 1) Tryd.underlying22 Tryd.sizeOf5 (rfl) (by omega))) ?_
      clear H a; intro a H
      refine s_op H rfl rfl (by decide) (x_load H rfl rfl (l_cell Tryd.isAgg5 (HS.byte2 (4 * i) 1 (by omega)))) ?_
      clear H a; intro a H
      refine s_op H rfl rfl (by decide) (x_conv H rfl rfl (c_int (z := (bt bs (4 * i + 1) : Int)) Tryd.underlying5 Tryd.underlying66 (wrap_u32_small _ (by omega) (by have := hb (4 * i + 1); omega)))) ?_
      clear H a; intro a H
      refine s_op H rfl rfl (by decide) (x_binI H rfl rfl rfl (b_shl (z := (bt bs (4 * i + 1) : Int) * 65536) (by decide) (sh16 _ (hb _)))) ?_
      clear H a; intro a H
      refine s_op H rfl rfl (by decide) (x_binI H rfl rfl rfl (b_or (z := ((bt bs (4 * i + 0) * 16777216 + bt bs (4 * i + 1) * 65536 : Nat) : Int)) (w4_or1 _ _ (hb _) (hb _)))) ?_
      clear H a; intro a H
      refine s_op H rfl rfl (by decide) (x_move H rfl rfl) ?_
      clear H a; intro a H
      refine s_op H rfl rfl (by decide) (x_indexAddr H rfl rfl rfl (i_sl (m := 2) Tryd.underlying22 Tryd.sizeOf5 (rfl) (by omega))) ?_
      clear H a; intro a H
      refine s_op H rfl rfl (by decide) (x_load H rfl rfl (l_cell Tryd.isAgg5 (HS.byte2 (4 * i) 2 (by omega)))) ?_
      clear H a; intro a H
      refine s_op H rfl rfl (by decide) (x_conv H rfl rfl (c_int (z := (bt bs (4 * i + 2) : Int)) Tryd.underlying5 Tryd.underlying66 (wrap_u32_small _ (by omega) (by have := hb (4 * i + 2); omega)))) ?_
      clear H a; intro a H
      refine s_op H rfl rfl (by decide) (x_binI H rfl rfl rfl (b_shl (z := (bt bs (4 * i + 2) : Int) * 256) (by decide) (sh8 _ (hb _)))) ?_
      clear H a; intro a H
      refine s_op H rfl rfl (by decide) (x_binI H rfl rfl rfl (b_or (z := ((bt bs (4 * i + 0) * 16777216 + bt bs (4 * i + 1) * 65536 + bt bs (4 * i + 2) * 256 : Nat) : Int)) (w4_or2 _ _ _ (hb _) (hb _) (hb _)))) ?_
      clear H a; intro a H
      refine s_op H rfl rfl (by decide) (x_move H rfl rfl) ?_
      clear H a; intro a H
      refine s_op H rfl rfl (by decide) (x_indexAddr H rfl rfl rfl (i_sl (m := 3) Tryd.underlying22 Tryd.sizeOf5 (rfl) (by omega))) ?_
      clear H a; intro a H
      refine s_op H rfl rfl (by decide) (x_load H rfl rfl (l_cell Tryd.isAgg5 (HS.byte2 (4 * i) 3 (by omega)))) ?_
      clear H a; intro a H
      refine s_op H rfl rfl (by decide) (x_conv H rfl rfl (c_int (z := (bt bs (4 * i + 3) : Int)) Tryd.underlying5 Tryd.underlying66 (wrap_u32_small _ (by omega) (by have := hb (4 * i + 3); omega)))) ?_
      clear H a; intro a H
      refine s_op H rfl rfl (by decide) (x_binI H rfl rfl rfl (b_or (z := wn (word bs i)) (w4_or3 _ _ _ _ (hb _) (hb _) (hb _) (hb _)))) ?_
      clear H a; intro a H
      refine s_op H rfl rfl (by decide) (x_indexAddr H rfl rfl rfl (i_arr0 (m := i) Tryd.underlying91 Tryd.sizeOf66 rfl (by omega))) ?_
      clear H a; intro a H
      refine wpStill_nil ?_
      refine e_st H rfl rfl (x_store H rfl rfl rfl (st_cell rfl rfl Tryd.sizeOf66 (B2.drew.frozen i) (B2.drew.isSome i (by simp [u32s_len, sch0_len]; omega)))) ?_
      have B3 := B2.drew.set_ i (.int .u32 (wn (word bs i)))
      rw [u32s_set, show 64 - i = (63 - i) + 1 by omega, fill_set _ _ _ _ _ (sch0_len bs i), ← sch0_succ, show 63 - i = 64 - (i + 1) by omega] at B3
      have E3 := E2.dr.st (g := g2) (by omega) i (.int .u32 (wn (word bs i)))
      refine e_nil (hR.out _ _ ?_)
      clear hR R
      refine hK6 _ _ ?_
      clear hK6 K6
      refine e_region (fun R hR => ?_)
      refine e_op H rfl rfl (by decide) (x_binI H rfl rfl rfl (b_add (z := ((i + 1 : Nat) : Int)) (by rw [IntKind.wrap_i64]; omega))) ?_
      clear H a; intro a H
      refine e_op H rfl rfl (by decide) (x_move H rfl rfl) ?_
      clear H a; intro a H
      refine e_nil (hR.out _ _ ?_)
      clear hR R
      refine ⟨16 - (i + 1), by omega, i + 1, by omega, rfl, H.sub ⟨rfl, rfl, rfl, trivial⟩, ?_, ?_⟩
      · exact B3
      · exact E3
    · skip
      obtain rfl : i = 16 := by omega
      refine wp_seq_k (fun K9 hK9 => ?_)
      refine e_region (fun R hR => ?_)
      refine e_op H rfl rfl (by decide) (x_binI H rfl rfl rfl (b_lss (b := false) (dec_f (by omega)))) ?_
      clear H a; intro a H
      refine e_nil (hR.out _ _ ?_)
      clear hR R
      refine hK9 _ _ ?_
      clear hK9 K9
      refine wp_seq_k (fun K10 hK10 => ?_)
      refine c_false H rfl ?_
      refine wp_exit ?_
      refine t_exit ?_
      refine t_exit ?_
      refine b_hit ?_
      clear hK10 K10
      refine hK2 _ _ ?_
      clear hK2 K2
      refine wp_seq_k (fun K11 hK11 => ?_)
      refine wp_seq_k (fun K12 hK12 => ?_)
      refine e_region (fun R hR => ?_)
      refine e_op H rfl rfl (by decide) (x_assign H rfl rfl) ?_
      clear H a; intro a H
      refine e_nil (hR.out _ _ ?_)
      clear hR R
      refine hK12 _ _ ?_
      clear hK12 K12
      refine wp_block ?_
      refine wp_loop_ghost (fun n a w => ∃ i : Nat, i ≤ 48 ∧ n = 48 - i ∧ Has a 201 [(0, .pointer (some ⟨g, 0, none⟩)), (2, .pointer (some ⟨g2, 0, none⟩)), (5, .int .i64 ((16 + i : Nat) : Int))] ∧ Blk w g2 91 (u32s (sch bs i ++ List.replicate (48 - i) 0#32)) ∧ Ext w0 w) (48) ?_ ?_
      · skip
        exact ⟨0, by omega, rfl, H.sub ⟨rfl, rfl, rfl, trivial⟩, B2, E2⟩
      · skip
        clear B2 E2 H a w
        intro n a w hI
        obtain ⟨i, hi, rfl, H, B2, E2⟩ := hI
        rcases Nat.lt_or_ge i 48 with hlt | hge
        · skip
          have hl := sch_len bs i
          have ld : ∀ j, j < 16 + i → w.cell? ⟨g2, j, none⟩ = some (.int .u32 (wn (wat (sch bs i) j))) := fun j hj => by
            rw [B2.cell, u32s_app, List.getElem?_append_left (by rw [u32s_len, hl]; exact hj)]
            exact u32s_get _ _ (by rw [hl]; exact hj)
          refine wp_seq_k (fun K13 hK13 => ?_)
          refine wp_seq_k (fun K14 hK14 => ?_)
          refine e_region (fun R hR => ?_)
          refine e_op H rfl rfl (by decide) (x_move H rfl rfl) ?_
          clear H a; intro a H
          refine e_op H rfl rfl (by decide) (x_binI H rfl rfl rfl (b_lss (b := true) (dec_t (by omega)))) ?_
          clear H a; intro a H
          refine e_nil (hR.out _ _ ?_)
          clear hR R
          refine hK14 _ _ ?_
          clear hK14 K14
          refine c_true H rfl ?_
          refine wp_skip ?_
          refine hK13 _ _ ?_
          clear hK13 K13
          refine wp_seq_k (fun K15 hK15 => ?_)
          refine wp_block ?_
          refine wp_seq_k (fun K16 hK16 => ?_)
          refine e_quiet (by kernel_rfl) (by kernel_rfl) (fun R hR => ?_)
          refine s_op H rfl rfl (by decide) (x_move H rfl rfl) ?_
          clear H a; intro a H
          refine s_op H rfl rfl (by decide) (x_binI H rfl rfl rfl (b_sub (z := ((i + 1 : Nat) : Int)) (by rw [IntKind.wrap_i64]; omega))) ?_
          clear H a; intro a H
          refine s_op H rfl rfl (by decide) (x_indexAddr H rfl rfl rfl (i_arr0 (m := i + 1) Tryd.underlying91 Tryd.sizeOf66 rfl (by omega))) ?_
          clear H a; intro a H
          refine s_op H rfl rfl (by decide) (x_load H rfl rfl (l_cell Tryd.isAgg66 (ld (i + 1) (by omega)))) ?_
          clear H a; intro a H
          refine s_op H rfl rfl (by decide) (x_move H rfl rfl) ?_
          clear H a; intro a H
          refine s_op H rfl rfl (by decide) (x_binI H rfl rfl rfl (b_sub (z := ((i + 14 : Nat) : Int)) (by rw [IntKind.wrap_i64]; omega))) ?_
          clear H a; intro a H
          refine s_op H rfl rfl (by decide) (x_indexAddr H rfl rfl rfl (i_arr0 (m := i + 14) Tryd.underlying91 Tryd.sizeOf66 rfl (by omega))) ?_
          clear H a; intro a H
          refine s_op H rfl rfl (by decide) (x_load H rfl rfl (l_cell Tryd.isAgg66 (ld (i + 14) (by omega)))) ?_
          clear H a; intro a H
          refine s_op H rfl rfl (by decide) (x_assign H rfl rfl) ?_
          clear H a; intro a H
          refine s_op H rfl rfl (by decide) (x_assign H rfl rfl) ?_
          clear H a; intro a H
          refine wpStill_nil (hR.out _ _ ?_)
          clear hR R
          obtain ⟨x, hx⟩ : ∃ x, x = wat (sch bs i) (i + 1) := ⟨_, rfl⟩
          obtain ⟨y, hy⟩ : ∃ y, y = wat (sch bs i) (i + 14) := ⟨_, rfl⟩
          rw [← hx, ← hy] at H
          refine hK16 _ _ ?_
          clear hK16 K16
          refine wp_seq_k (fun K17 hK17 => ?_)
          refine e_region (fun R hR => ?_)
          refine e_op H rfl rfl (by decide) (x_move H rfl rfl) ?_
          clear H a; intro a H
          refine e_callp H rfl rfl (by decide) rfl rfl (Tryd.call53 _) (rotr_any x 7 _ (by omega) (by omega)) ?_
          clear H a; intro a H
          refine e_op H rfl rfl (by decide) (x_move H rfl rfl) ?_
          clear H a; intro a H
          refine e_callp H rfl rfl (by decide) rfl rfl (Tryd.call53 _) (rotr_any x 18 _ (by omega) (by omega)) ?_
          clear H a; intro a H
          refine e_op H rfl rfl (by decide) (x_binI H rfl rfl rfl (b_xor (z := wn (rr x 7 ^^^ rr x 18)) (xor_wn _ _))) ?_
          clear H a; intro a H
          refine e_op H rfl rfl (by decide) (x_move H rfl rfl) ?_
          clear H a; intro a H
          refine e_op H rfl rfl (by decide) (x_binI H rfl rfl rfl (b_shr (z := wn (x >>> 3)) (by decide) (by rw [min_b32 (i := (3 : Int)) 3 rfl (by omega)]; exact shr_wn x 3))) ?_
          clear H a; intro a H
          refine e_op H rfl rfl (by decide) (x_binI H rfl rfl rfl (b_xor (z := wn (sg0 x)) (xor_wn _ _))) ?_
          clear H a; intro a H
          refine e_op H rfl rfl (by decide) (x_assign H rfl rfl) ?_
          clear H a; intro a H
          refine e_nil (hR.out _ _ ?_)
          clear hR R
          refine hK17 _ _ ?_
          clear hK17 K17
          refine wp_seq_k (fun K18 hK18 => ?_)
          refine e_region (fun R hR => ?_)
          refine e_op H rfl rfl (by decide) (x_move H rfl rfl) ?_
          clear H a; intro a H
          refine e_callp H rfl rfl (by decide) rfl rfl (Tryd.call53 _) (rotr_any y 17 _ (by omega) (by omega)) ?_
          clear H a; intro a H
          refine e_op H rfl rfl (by decide) (x_move H rfl rfl) ?_
          clear H a; intro a H
          refine e_callp H rfl rfl (by decide) rfl rfl (Tryd.call53 _) (rotr_any y 19 _ (by omega) (by omega)) ?_
          clear H a; intro a H
          refine e_op H rfl rfl (by decide) (x_binI H rfl rfl rfl (b_xor (z := wn (rr y 17 ^^^ rr y 19)) (xor_wn _ _))) ?_
          clear H a; intro a H
          refine e_op H rfl rfl (by decide) (x_move H rfl rfl) ?_
          clear H a; intro a H
          refine e_op H rfl rfl (by decide) (x_binI H rfl rfl rfl (b_shr (z := wn (y >>> 10)) (by decide) (by rw [min_b32 (i := (10 : Int)) 10 rfl (by omega)]; exact shr_wn y 10))) ?_
          clear H a; intro a H
          refine e_op H rfl rfl (by decide) (x_binI H rfl rfl rfl (b_xor (z := wn (sg1 y)) (xor_wn _ _))) ?_
          clear H a; intro a H
          refine e_op H rfl rfl (by decide) (x_assign H rfl rfl) ?_
          clear H a; intro a H
          refine e_nil (hR.out _ _ ?_)
          clear hR R
          refine hK18 _ _ ?_
          clear hK18 K18
          refine e_tail 15 (by kernel_rfl) (by kernel_rfl) (fun R hR => ?_)
          simp only [List.take_succ_cons, List.take_zero, List.drop_succ_cons, List.drop_zero]
          refine s_op H rfl rfl (by decide) (x_move H rfl rfl) ?_
          clear H a; intro a H
          refine s_op H rfl rfl (by decide) (x_move H rfl rfl) ?_
          clear H a; intro a H
          refine s_op H rfl rfl (by decide) (x_binI H rfl rfl rfl (b_sub (z := ((i : Nat) : Int)) (by rw [IntKind.wrap_i64]; omega))) ?_
          clear H a; intro a H
          refine s_op H rfl rfl (by decide) (x_indexAddr H rfl rfl rfl (i_arr0 (m := i) Tryd.underlying91 Tryd.sizeOf66 rfl (by omega))) ?_
          clear H a; intro a H
          refine s_op H rfl rfl (by decide) (x_load H rfl rfl (l_cell Tryd.isAgg66 (ld i (by omega)))) ?_
          clear H a; intro a H
          refine s_op H rfl rfl (by decide) (x_move H rfl rfl) ?_
          clear H a; intro a H
          refine s_op H rfl rfl (by decide) (x_binI H rfl rfl rfl (b_add (z := wn (wat (sch bs i) i + sg0 x)) (add_wn _ _))) ?_
          clear H a; intro a H
          refine s_op H rfl rfl (by decide) (x_move H rfl rfl) ?_
          clear H a; intro a H
          refine s_op H rfl rfl (by decide) (x_binI H rfl rfl rfl (b_sub (z := ((i + 9 : Nat) : Int)) (by rw [IntKind.wrap_i64]; omega))) ?_
          clear H a; intro a H
          refine s_op H rfl rfl (by decide) (x_indexAddr H rfl rfl rfl (i_arr0 (m := i + 9) Tryd.underlying91 Tryd.sizeOf66 rfl (by omega))) ?_
          clear H a; intro a H
          refine s_op H rfl rfl (by decide) (x_load H rfl rfl (l_cell Tryd.isAgg66 (ld (i + 9) (by omega)))) ?_
          clear H a; intro a H
          refine s_op H rfl rfl (by decide) (x_binI H rfl rfl rfl (b_add (z := wn (wat (sch bs i) i + sg0 x + wat (sch bs i) (i + 9))) (add_wn _ _))) ?_
          clear H a; intro a H
          refine s_op H rfl rfl (by decide) (x_move H rfl rfl) ?_
          clear H a; intro a H
          refine s_op H rfl rfl (by decide) (x_binI H rfl rfl rfl (b_add (z := wn (nxt (sch bs i) i)) (by rw [hx, hy]; exact add_wn _ _))) ?_
          clear H a; intro a H
          refine s_op H rfl rfl (by decide) (x_indexAddr H rfl rfl rfl (i_arr0 (m := 16 + i) Tryd.underlying91 Tryd.sizeOf66 rfl (by omega))) ?_
          clear H a; intro a H
          refine wpStill_nil ?_
          refine e_st H rfl rfl (x_store H rfl rfl rfl (st_cell rfl rfl Tryd.sizeOf66 (B2.drew.frozen (16 + i)) (B2.drew.isSome (16 + i) (by simp [u32s_len, sch_len]; omega)))) ?_
          have B3 := B2.drew.set_ (16 + i) (.int .u32 (wn (nxt (sch bs i) i)))
          rw [u32s_set, show 48 - i = (47 - i) + 1 by omega, fill_set _ _ _ _ _ (sch_len bs i), show sch bs i ++ [nxt (sch bs i) i] = sch bs (i + 1) from rfl, show 47 - i = 48 - (i + 1) by omega] at B3
          have E3 := E2.dr.dr.st (g := g2) (by omega) (16 + i) (.int .u32 (wn (nxt (sch bs i) i)))
          refine e_nil (hR.out _ _ ?_)
          clear hR R
          refine hK15 _ _ ?_
          clear hK15 K15
          refine e_region (fun R hR => ?_)
          refine e_op H rfl rfl (by decide) (x_move H rfl rfl) ?_
          clear H a; intro a H
          refine e_op H rfl rfl (by decide) (x_binI H rfl rfl rfl (b_add (z := ((16 + (i + 1) : Nat) : Int)) (by rw [IntKind.wrap_i64]; omega))) ?_
          clear H a; intro a H
          refine e_op H rfl rfl (by decide) (x_assign H rfl rfl) ?_
          clear H a; intro a H
          refine e_nil (hR.out _ _ ?_)
          clear hR R
          exact ⟨48 - (i + 1), by omega, i + 1, by omega, rfl, H.sub ⟨rfl, rfl, rfl, trivial⟩, B3, E3⟩
        · skip
          obtain rfl : i = 48 := by omega
          refine wp_seq_k (fun K19 hK19 => ?_)
          refine wp_seq_k (fun K20 hK20 => ?_)
          refine e_region (fun R hR => ?_)
          refine e_op H rfl rfl (by decide) (x_move H rfl rfl) ?_
          clear H a; intro a H
          refine e_op H rfl rfl (by decide) (x_binI H rfl rfl rfl (b_lss (b := false) (dec_f (by omega)))) ?_
          clear H a; intro a H
          refine e_nil (hR.out _ _ ?_)
          clear hR R
          refine hK20 _ _ ?_
          clear hK20 K20
          refine c_false H rfl ?_
          refine wp_exit ?_
          refine t_exit ?_
          refine t_exit ?_
          refine b_hit ?_
          clear hK19 K19
          refine hK11 _ _ ?_
          clear hK11 K11
          refine wp_seq_k (fun K21 hK21 => ?_)
          refine e_region (fun R hR => ?_)
          have HS := hs.ext E2
          have hw8 : ∀ j v, (u32s s.l)[j]? = some v → w.cell? ⟨g, j, none⟩ = some v := fun j v hv => by
            have hj : j < 8 := by have := (List.getElem?_eq_some_iff.1 hv).1; simpa [u32s_len, S8.len] using this
            rw [HS.word j hj]
            rw [u32s_get s.l j hj] at hv
            exact hv
          simp only [Nat.sub_self, List.replicate_zero, List.append_nil] at B2
          refine e_op H rfl rfl (by decide) (x_move H rfl rfl) ?_
          clear H a; intro a H
          refine e_op H rfl rfl (by decide) (x_nilCheck H rfl rfl) ?_
          clear H a; intro a H
          refine e_op H rfl rfl (by decide) (x_fieldAddr H rfl rfl (fa74_0 _ _)) ?_
          clear H a; intro a H
          refine e_op H rfl rfl (by decide) (x_load H rfl rfl (l_part (off := 0) (cs := u32s s.l) Tryd.isAgg67 Tryd.sizeOf67 (fun j v hv => by rw [Nat.zero_add]; exact hw8 j v hv))) ?_
          clear H a; intro a H
          refine e_op H rfl rfl (by decide) (x_alloc H rfl (al_new (z67 _))) ?_
          clear H a; intro a H
          have B4 := Blk.new w 67 (u32s (List.replicate 8 0#32))
          have B2 := B2.alloc (.cells (u32s (List.replicate 8 0#32)).toArray 67)
          have E4 := E2.al (.cells (u32s (List.replicate 8 0#32)).toArray 67)
          obtain ⟨g3, hg3⟩ : ∃ g3, g3 = w.heap.size := ⟨_, rfl⟩
          have hsz := E2.sz
          rw [← hg3] at H B4
          generalize w.alloc (.cells (u32s (List.replicate 8 0#32)).toArray 67) = w1 at *
          refine e_st H rfl rfl (x_store H rfl rfl rfl (st_row B4 (by kernel_rfl) (by simp [u32s_len, S8.len]) (by rw [Array.all_eq_true_iff_forall_mem]; intro v hv; exact u32s_one _ v (by simpa using hv)))) ?_
          have hne : g2 ≠ g3 := B2.ne_ B4 (by decide)
          have B4 := B4.row (u32s s.l)
          have B2 := B2.grown (grown_setRow w1 g3 (u32s s.l).toArray) (by simpa using hne)
          have E4 := E4.row_ (g := g3) (by omega) (u32s s.l).toArray
          refine e_nil (hR.out _ _ ?_)
          clear hR R
          refine hK21 _ _ ?_
          clear hK21 K21
          refine wp_seq_k (fun K22 hK22 => ?_)
          refine wp_seq_k (fun K23 hK23 => ?_)
          refine e_region (fun R hR => ?_)
          refine e_op H rfl rfl (by decide) (x_move H rfl rfl) ?_
          clear H a; intro a H
          refine e_nil (hR.out _ _ ?_)
          clear hR R
          refine hK23 _ _ ?_
          clear hK23 K23
          refine wp_block ?_
          refine wp_loop_ghost (fun n a w => ∃ i : Nat, i ≤ 64 ∧ n = 64 - i ∧ Has a 201 [(0, .pointer (some ⟨g, 0, none⟩)), (2, .pointer (some ⟨g2, 0, none⟩)), (10, .pointer (some ⟨g3, 0, none⟩)), (106, .int .i64 (i : Int))] ∧ Blk w g2 91 (u32s (sch bs 48)) ∧ Blk w g3 67 (u32s (rnds s (sch bs 48) i).l) ∧ Ext w0 w) (64) ?_ ?_
          · skip
            exact ⟨0, by omega, rfl, H.sub ⟨rfl, rfl, rfl, rfl, trivial⟩, B2, B4, E4⟩
          · skip
            clear B2 B4 E4 H a E2 HS hw8
            intro n a w hI
            obtain ⟨i, hi, rfl, H, B2, B4, E4⟩ := hI
            rcases Nat.lt_or_ge i 64 with hlt | hge
            · skip
              have hl := sch_len bs 48
              have lw : w.cell? ⟨g2, i, none⟩ = some (.int .u32 (wn (wat (sch bs 48) i))) := by rw [B2.cell]; exact u32s_get _ _ (by omega)
              have lk_ : w.cell? ⟨0, i, none⟩ = some (.int .u32 (wn (wat kc i))) := (K0.ext E4) i hlt
              obtain ⟨S, hS⟩ : ∃ S, S = rnds s (sch bs 48) i := ⟨_, rfl⟩
              rw [← hS] at B4
              have ls : ∀ j, j < 8 → w.cell? ⟨g3, j, none⟩ = some (.int .u32 (wn (wat S.l j))) := fun j hj => by rw [B4.cell]; exact u32s_get _ _ hj
              refine wp_seq_k (fun K24 hK24 => ?_)
              refine e_region (fun R hR => ?_)
              refine e_op H rfl rfl (by decide) (x_binI H rfl rfl rfl (b_lss (b := true) (dec_t (by omega)))) ?_
              clear H a; intro a H
              refine e_nil (hR.out _ _ ?_)
              clear hR R
              refine hK24 _ _ ?_
              clear hK24 K24
              refine wp_seq_k (fun K25 hK25 => ?_)
              refine c_true H rfl ?_
              refine wp_skip ?_
              refine hK25 _ _ ?_
              clear hK25 K25
              refine wp_seq_k (fun K26 hK26 => ?_)
              refine wp_block ?_
              refine wp_seq_k (fun K27 hK27 => ?_)
              refine e_region (fun R hR => ?_)
              refine e_op H rfl rfl (by decide) (x_move H rfl rfl) ?_
              clear H a; intro a H
              refine e_op H rfl rfl (by decide) (x_assign H rfl rfl) ?_
              clear H a; intro a H
              refine e_nil (hR.out _ _ ?_)
              clear hR R
              refine hK27 _ _ ?_
              clear hK27 K27
              refine wp_seq_k (fun K28 hK28 => ?_)
              refine e_quiet (by kernel_rfl) (by kernel_rfl) (fun R hR => ?_)
              refine s_op H rfl rfl (by decide) (x_indexAddr H rfl rfl rfl (i_arr0 (m := 0) Tryd.underlying67 Tryd.sizeOf66 rfl (by omega))) ?_
              clear H a; intro a H
              refine s_op H rfl rfl (by decide) (x_load H rfl rfl (l_cell Tryd.isAgg66 (ls 0 (by omega)))) ?_
              clear H a; intro a H
              refine s_op H rfl rfl (by decide) (x_indexAddr H rfl rfl rfl (i_arr0 (m := 1) Tryd.underlying67 Tryd.sizeOf66 rfl (by omega))) ?_
              clear H a; intro a H
              refine s_op H rfl rfl (by decide) (x_load H rfl rfl (l_cell Tryd.isAgg66 (ls 1 (by omega)))) ?_
              clear H a; intro a H
              refine s_op H rfl rfl (by decide) (x_indexAddr H rfl rfl rfl (i_arr0 (m := 2) Tryd.underlying67 Tryd.sizeOf66 rfl (by omega))) ?_
              clear H a; intro a H
              refine s_op H rfl rfl (by decide) (x_load H rfl rfl (l_cell Tryd.isAgg66 (ls 2 (by omega)))) ?_
              clear H a; intro a H
              refine s_op H rfl rfl (by decide) (x_indexAddr H rfl rfl rfl (i_arr0 (m := 4) Tryd.underlying67 Tryd.sizeOf66 rfl (by omega))) ?_
              clear H a; intro a H
              refine s_op H rfl rfl (by decide) (x_load H rfl rfl (l_cell Tryd.isAgg66 (ls 4 (by omega)))) ?_
              clear H a; intro a H
              refine s_op H rfl rfl (by decide) (x_indexAddr H rfl rfl rfl (i_arr0 (m := 5) Tryd.underlying67 Tryd.sizeOf66 rfl (by omega))) ?_
              clear H a; intro a H
              refine s_op H rfl rfl (by decide) (x_load H rfl rfl (l_cell Tryd.isAgg66 (ls 5 (by omega)))) ?_
              clear H a; intro a H
              refine s_op H rfl rfl (by decide) (x_indexAddr H rfl rfl rfl (i_arr0 (m := 6) Tryd.underlying67 Tryd.sizeOf66 rfl (by omega))) ?_
              clear H a; intro a H
              refine s_op H rfl rfl (by decide) (x_load H rfl rfl (l_cell Tryd.isAgg66 (ls 6 (by omega)))) ?_
              clear H a; intro a H
              refine s_op H rfl rfl (by decide) (x_assign H rfl rfl) ?_
              clear H a; intro a H
              refine s_op H rfl rfl (by decide) (x_assign H rfl rfl) ?_
              clear H a; intro a H
              refine s_op H rfl rfl (by decide) (x_assign H rfl rfl) ?_
              clear H a; intro a H
              refine s_op H rfl rfl (by decide) (x_assign H rfl rfl) ?_
              clear H a; intro a H
              refine s_op H rfl rfl (by decide) (x_assign H rfl rfl) ?_
              clear H a; intro a H
              refine s_op H rfl rfl (by decide) (x_assign H rfl rfl) ?_
              clear H a; intro a H
              refine wpStill_nil (hR.out _ _ ?_)
              clear hR R
              replace H : Has a 201 [(0, .pointer (some ⟨g, 0, none⟩)), (2, .pointer (some ⟨g2, 0, none⟩)), (10, .pointer (some ⟨g3, 0, none⟩)), (106, .int .i64 (i : Int)), (11, .int .i64 (i : Int)), (12, .int .u32 (wn S.a)), (13, .int .u32 (wn S.b)), (14, .int .u32 (wn S.c)), (15, .int .u32 (wn S.e)), (16, .int .u32 (wn S.f)), (17, .int .u32 (wn S.g))] := H.sub ⟨rfl, rfl, rfl, rfl, rfl, rfl, rfl, rfl, rfl, rfl, rfl, trivial⟩
              refine hK28 _ _ ?_
              clear hK28 K28
              refine wp_seq_k (fun K29 hK29 => ?_)
              refine e_quiet (by kernel_rfl) (by kernel_rfl) (fun R hR => ?_)
              refine s_op H rfl rfl (by decide) (x_indexAddr H rfl rfl rfl (i_arr0 (m := 7) Tryd.underlying67 Tryd.sizeOf66 rfl (by omega))) ?_
              clear H a; intro a H
              refine s_op H rfl rfl (by decide) (x_load H rfl rfl (l_cell Tryd.isAgg66 (ls 7 (by omega)))) ?_
              clear H a; intro a H
              refine s_op H rfl rfl (by decide) (x_move H rfl rfl) ?_
              clear H a; intro a H
              refine s_call H rfl rfl (by decide) rfl rfl (Tryd.call53 _) (rotr_any S.e 6 _ (by omega) (by omega)) ?_
              clear H a; intro a H
              refine s_op H rfl rfl (by decide) (x_move H rfl rfl) ?_
              clear H a; intro a H
              refine s_call H rfl rfl (by decide) rfl rfl (Tryd.call53 _) (rotr_any S.e 11 _ (by omega) (by omega)) ?_
              clear H a; intro a H
              refine s_op H rfl rfl (by decide) (x_binI H rfl rfl rfl (b_xor (z := wn (rr S.e 6 ^^^ rr S.e 11)) (xor_wn _ _))) ?_
              clear H a; intro a H
              refine s_op H rfl rfl (by decide) (x_move H rfl rfl) ?_
              clear H a; intro a H
              refine s_call H rfl rfl (by decide) rfl rfl (Tryd.call53 _) (rotr_any S.e 25 _ (by omega) (by omega)) ?_
              clear H a; intro a H
              refine s_op H rfl rfl (by decide) (x_binI H rfl rfl rfl (b_xor (z := wn (bg1 S.e)) (xor_wn _ _))) ?_
              clear H a; intro a H
              refine s_op H rfl rfl (by decide) (x_binI H rfl rfl rfl (b_add (z := wn (S.h + bg1 S.e)) (add_wn _ _))) ?_
              clear H a; intro a H
              refine s_op H rfl rfl (by decide) (x_move H rfl rfl) ?_
              clear H a; intro a H
              refine s_op H rfl rfl (by decide) (x_move H rfl rfl) ?_
              clear H a; intro a H
              refine s_op H rfl rfl (by decide) (x_binI H rfl rfl rfl (b_and (z := wn (S.e &&& S.f)) (and_wn _ _))) ?_
              clear H a; intro a H
              refine s_op H rfl rfl (by decide) (x_move H rfl rfl) ?_
              clear H a; intro a H
              refine s_op H rfl rfl (by decide) (x_un H rfl rfl (u_xor (z := wn (~~~ S.e)) (not_wn _))) ?_
              clear H a; intro a H
              refine s_op H rfl rfl (by decide) (x_move H rfl rfl) ?_
              clear H a; intro a H
              refine s_op H rfl rfl (by decide) (x_binI H rfl rfl rfl (b_and (z := wn (~~~ S.e &&& S.g)) (and_wn _ _))) ?_
              clear H a; intro a H
              refine s_op H rfl rfl (by decide) (x_binI H rfl rfl rfl (b_xor (z := wn (cho S.e S.f S.g)) (xor_wn _ _))) ?_
              clear H a; intro a H
              refine s_op H rfl rfl (by decide) (x_binI H rfl rfl rfl (b_add (z := wn (S.h + bg1 S.e + cho S.e S.f S.g)) (add_wn _ _))) ?_
              clear H a; intro a H
              refine s_op H rfl rfl (by decide) (x_move H rfl rfl) ?_
              clear H a; intro a H
              refine s_op H rfl rfl (by decide) (x_indexAddr H rfl rfl rfl (i_arr0 (m := i) Tryd.underlying91 Tryd.sizeOf66 rfl (by omega))) ?_
              clear H a; intro a H
              refine s_op H rfl rfl (by decide) (x_load H rfl rfl (l_cell Tryd.isAgg66 (lk_))) ?_
              clear H a; intro a H
              refine s_op H rfl rfl (by decide) (x_binI H rfl rfl rfl (b_add (z := wn (S.h + bg1 S.e + cho S.e S.f S.g + wat kc i)) (add_wn _ _))) ?_
              clear H a; intro a H
              refine s_op H rfl rfl (by decide) (x_move H rfl rfl) ?_
              clear H a; intro a H
              refine s_op H rfl rfl (by decide) (x_indexAddr H rfl rfl rfl (i_arr0 (m := i) Tryd.underlying91 Tryd.sizeOf66 rfl (by omega))) ?_
              clear H a; intro a H
              refine s_op H rfl rfl (by decide) (x_load H rfl rfl (l_cell Tryd.isAgg66 (lw))) ?_
              clear H a; intro a H
              refine s_op H rfl rfl (by decide) (x_binI H rfl rfl rfl (b_add (z := wn (tt1 S (wat kc i) (wat (sch bs 48) i))) (add_wn _ _))) ?_
              clear H a; intro a H
              refine s_op H rfl rfl (by decide) (x_assign H rfl rfl) ?_
              clear H a; intro a H
              refine wpStill_nil (hR.out _ _ ?_)
              clear hR R
              obtain ⟨T, hT⟩ : ∃ T, T = tt1 S (wat kc i) (wat (sch bs 48) i) := ⟨_, rfl⟩
              rw [← hT] at H
              refine hK29 _ _ ?_
              clear hK29 K29
              refine wp_seq_k (fun K30 hK30 => ?_)
              refine e_region (fun R hR => ?_)
              refine e_op H rfl rfl (by decide) (x_move H rfl rfl) ?_
              clear H a; intro a H
              refine e_callp H rfl rfl (by decide) rfl rfl (Tryd.call53 _) (rotr_any S.a 2 _ (by omega) (by omega)) ?_
              clear H a; intro a H
              refine e_op H rfl rfl (by decide) (x_move H rfl rfl) ?_
              clear H a; intro a H
              refine e_callp H rfl rfl (by decide) rfl rfl (Tryd.call53 _) (rotr_any S.a 13 _ (by omega) (by omega)) ?_
              clear H a; intro a H
              refine e_op H rfl rfl (by decide) (x_binI H rfl rfl rfl (b_xor (z := wn (rr S.a 2 ^^^ rr S.a 13)) (xor_wn _ _))) ?_
              clear H a; intro a H
              refine e_op H rfl rfl (by decide) (x_move H rfl rfl) ?_
              clear H a; intro a H
              refine e_callp H rfl rfl (by decide) rfl rfl (Tryd.call53 _) (rotr_any S.a 22 _ (by omega) (by omega)) ?_
              clear H a; intro a H
              refine e_op H rfl rfl (by decide) (x_binI H rfl rfl rfl (b_xor (z := wn (bg0 S.a)) (xor_wn _ _))) ?_
              clear H a; intro a H
              refine e_op H rfl rfl (by decide) (x_move H rfl rfl) ?_
              clear H a; intro a H
              refine e_op H rfl rfl (by decide) (x_move H rfl rfl) ?_
              clear H a; intro a H
              refine e_op H rfl rfl (by decide) (x_binI H rfl rfl rfl (b_and (z := wn (S.a &&& S.b)) (and_wn _ _))) ?_
              clear H a; intro a H
              refine e_op H rfl rfl (by decide) (x_move H rfl rfl) ?_
              clear H a; intro a H
              refine e_op H rfl rfl (by decide) (x_move H rfl rfl) ?_
              clear H a; intro a H
              refine e_op H rfl rfl (by decide) (x_binI H rfl rfl rfl (b_and (z := wn (S.a &&& S.c)) (and_wn _ _))) ?_
              clear H a; intro a H
              refine e_op H rfl rfl (by decide) (x_binI H rfl rfl rfl (b_xor (z := wn ((S.a &&& S.b) ^^^ (S.a &&& S.c))) (xor_wn _ _))) ?_
              clear H a; intro a H
              refine e_op H rfl rfl (by decide) (x_move H rfl rfl) ?_
              clear H a; intro a H
              refine e_op H rfl rfl (by decide) (x_move H rfl rfl) ?_
              clear H a; intro a H
              refine e_op H rfl rfl (by decide) (x_binI H rfl rfl rfl (b_and (z := wn (S.b &&& S.c)) (and_wn _ _))) ?_
              clear H a; intro a H
              refine e_op H rfl rfl (by decide) (x_binI H rfl rfl rfl (b_xor (z := wn (maj S.a S.b S.c)) (xor_wn _ _))) ?_
              clear H a; intro a H
              refine e_op H rfl rfl (by decide) (x_binI H rfl rfl rfl (b_add (z := wn (tt2 S)) (add_wn _ _))) ?_
              clear H a; intro a H
              refine e_op H rfl rfl (by decide) (x_assign H rfl rfl) ?_
              clear H a; intro a H
              refine e_nil (hR.out _ _ ?_)
              clear hR R
              refine hK30 _ _ ?_
              clear hK30 K30
              refine e_region (fun R hR => ?_)
              refine e_op H rfl rfl (by decide) (x_move H rfl rfl) ?_
              clear H a; intro a H
              refine e_op H rfl rfl (by decide) (x_move H rfl rfl) ?_
              clear H a; intro a H
              refine e_op H rfl rfl (by decide) (x_binI H rfl rfl rfl (b_add (z := wn (T + tt2 S)) (add_wn _ _))) ?_
              clear H a; intro a H
              refine e_op H rfl rfl (by decide) (x_move H rfl rfl) ?_
              clear H a; intro a H
              refine e_op H rfl rfl (by decide) (x_move H rfl rfl) ?_
              clear H a; intro a H
              refine e_op H rfl rfl (by decide) (x_move H rfl rfl) ?_
              clear H a; intro a H
              refine e_op H rfl rfl (by decide) (x_indexAddr H rfl rfl rfl (i_arr0 (m := 3) Tryd.underlying67 Tryd.sizeOf66 rfl (by omega))) ?_
              clear H a; intro a H
              refine e_op H rfl rfl (by decide) (x_load H rfl rfl (l_cell Tryd.isAgg66 (ls 3 (by omega)))) ?_
              clear H a; intro a H
              refine e_op H rfl rfl (by decide) (x_move H rfl rfl) ?_
              clear H a; intro a H
              refine e_op H rfl rfl (by decide) (x_binI H rfl rfl rfl (b_add (z := wn (S.d + T)) (add_wn _ _))) ?_
              clear H a; intro a H
              refine e_op H rfl rfl (by decide) (x_move H rfl rfl) ?_
              clear H a; intro a H
              refine e_op H rfl rfl (by decide) (x_move H rfl rfl) ?_
              clear H a; intro a H
              refine e_op H rfl rfl (by decide) (x_move H rfl rfl) ?_
              clear H a; intro a H
              refine e_op H rfl rfl (by decide) (x_build (v := .agg (u32s (rnd S (wat kc i) (wat (sch bs 48) i)).l).toArray) H rfl rfl (run_build _ 67 _ _ (by rw [hT]; kernel_rfl))) ?_
              clear H a; intro a H
              refine e_st H rfl rfl (x_store H rfl rfl rfl (st_row (w := w.drew.drew) B4 (by kernel_rfl) (by simp [u32s_len, S8.len]) (by rw [Array.all_eq_true_iff_forall_mem]; intro v hv; exact u32s_one _ v (by simpa using hv)))) ?_
              have hne : g2 ≠ g3 := B2.ne_ B4 (by decide)
              have B6 := (B4.drew.drew).row (u32s (rnd S (wat kc i) (wat (sch bs 48) i)).l)
              rw [hS] at B6
              have B5 := (B2.drew.drew).grown (grown_setRow w.drew.drew g3 (u32s (rnd S (wat kc i) (wat (sch bs 48) i)).l).toArray) (by simpa using hne)
              have E5 := E4.dr.dr.row_ (g := g3) (by omega) (u32s (rnd S (wat kc i) (wat (sch bs 48) i)).l).toArray
              rw [hS] at B5 E5 ⊢
              refine e_nil (hR.out _ _ ?_)
              clear hR R
              refine hK26 _ _ ?_
              clear hK26 K26
              refine e_region (fun R hR => ?_)
              refine e_op H rfl rfl (by decide) (x_binI H rfl rfl rfl (b_add (z := ((i + 1 : Nat) : Int)) (by rw [IntKind.wrap_i64]; omega))) ?_
              clear H a; intro a H
              refine e_op H rfl rfl (by decide) (x_move H rfl rfl) ?_
              clear H a; intro a H
              refine e_nil (hR.out _ _ ?_)
              clear hR R
              exact ⟨64 - (i + 1), by omega, i + 1, by omega, rfl, H.sub ⟨rfl, rfl, rfl, rfl, trivial⟩, B5, B6, E5⟩
            · skip
              obtain rfl : i = 64 := by omega
              obtain ⟨r, hr⟩ : ∃ r, r = rnds s (sch bs 48) 64 := ⟨_, rfl⟩
              rw [← hr] at B4
              refine wp_seq_k (fun K31 hK31 => ?_)
              refine e_region (fun R hR => ?_)
              refine e_op H rfl rfl (by decide) (x_binI H rfl rfl rfl (b_lss (b := false) (dec_f (by omega)))) ?_
              clear H a; intro a H
              refine e_nil (hR.out _ _ ?_)
              clear hR R
              refine hK31 _ _ ?_
              clear hK31 K31
              refine wp_seq_k (fun K32 hK32 => ?_)
              refine c_false H rfl ?_
              refine wp_exit ?_
              refine t_exit ?_
              refine t_exit ?_
              refine b_hit ?_
              clear hK32 K32
              refine hK22 _ _ ?_
              clear hK22 K22
              refine wp_seq_k (fun K33 hK33 => ?_)
              refine e_region (fun R hR => ?_)
              refine e_op H rfl rfl (by decide) (x_load H rfl rfl (l_row B4 Tryd.underlying67 rfl (by kernel_rfl))) ?_
              clear H a; intro a H
              refine e_op H rfl rfl (by decide) (x_move H rfl rfl) ?_
              clear H a; intro a H
              refine e_nil (hR.out _ _ ?_)
              clear hR R
              have HS := hs.ext E4
              have F0 : Frm [g] w0 w := E4.frm
              have HS : Hsh w g ((add8 s r).l.take 0 ++ s.l.drop 0) bs tot := HS
              refine hK33 _ _ ?_
              clear hK33 K33
              refine wp_block ?_
              refine wp_loop_ghost (fun n a w => ∃ i : Nat, i ≤ 8 ∧ n = 8 - i ∧ Has a 201 [(0, .pointer (some ⟨g, 0, none⟩)), (184, .agg (u32s r.l).toArray), (185, .int .i64 (i : Int))] ∧ Hsh w g ((add8 s r).l.take i ++ s.l.drop i) bs tot ∧ Frm [g] w0 w) (8) ?_ ?_
              · skip
                exact ⟨0, by omega, rfl, H.sub ⟨rfl, rfl, rfl, trivial⟩, HS, F0⟩
              · skip
                clear B2 B4 E4 H a HS F0
                intro n a w hI
                obtain ⟨i, hi, rfl, H, HS, F0⟩ := hI
                rcases Nat.lt_or_ge i 8 with hlt | hge
                · skip
                  have lw := HS.word i hlt
                  rw [wat_take (add8 s r).l s.l i (by rw [S8.len]; exact hlt)] at lw
                  refine wp_seq_k (fun K34 hK34 => ?_)
                  refine e_region (fun R hR => ?_)
                  refine e_op H rfl rfl (by decide) (x_binI H rfl rfl rfl (b_lss (b := true) (dec_t (by omega)))) ?_
                  clear H a; intro a H
                  refine e_nil (hR.out _ _ ?_)
                  clear hR R
                  refine hK34 _ _ ?_
                  clear hK34 K34
                  refine wp_seq_k (fun K35 hK35 => ?_)
                  refine c_true H rfl ?_
                  refine wp_skip ?_
                  refine hK35 _ _ ?_
                  clear hK35 K35
                  refine wp_seq_k (fun K36 hK36 => ?_)
                  refine wp_block ?_
                  refine wp_seq_k (fun K37 hK37 => ?_)
                  refine e_region (fun R hR => ?_)
                  refine e_op H rfl rfl (by decide) (x_move H rfl rfl) ?_
                  clear H a; intro a H
                  refine e_op H rfl rfl (by decide) (x_index H rfl rfl rfl (i_val (m := i) Tryd.underlying67 Tryd.sizeOf66 Tryd.isAgg66 (rfl) (by omega) (by rw [List.getElem?_toArray]; exact u32s_get r.l i hlt))) ?_
                  clear H a; intro a H
                  refine e_op H rfl rfl (by decide) (x_assign H rfl rfl) ?_
                  clear H a; intro a H
                  refine e_op H rfl rfl (by decide) (x_assign H rfl rfl) ?_
                  clear H a; intro a H
                  refine e_nil (hR.out _ _ ?_)
                  clear hR R
                  refine hK37 _ _ ?_
                  clear hK37 K37
                  refine e_tail 11 (by kernel_rfl) (by kernel_rfl) (fun R hR => ?_)
                  simp only [List.take_succ_cons, List.take_zero, List.drop_succ_cons, List.drop_zero]
                  refine s_op H rfl rfl (by decide) (x_move H rfl rfl) ?_
                  clear H a; intro a H
                  refine s_op H rfl rfl (by decide) (x_move H rfl rfl) ?_
                  clear H a; intro a H
                  refine s_op H rfl rfl (by decide) (x_nilCheck H rfl rfl) ?_
                  clear H a; intro a H
                  refine s_op H rfl rfl (by decide) (x_fieldAddr H rfl rfl (fa74_0 _ _)) ?_
                  clear H a; intro a H
                  refine s_op H rfl rfl (by decide) (x_indexAddr H rfl rfl rfl (i_arr0 (m := i) Tryd.underlying67 Tryd.sizeOf66 rfl (by omega))) ?_
                  clear H a; intro a H
                  refine s_op H rfl rfl (by decide) (x_load H rfl rfl (l_cell Tryd.isAgg66 (lw))) ?_
                  clear H a; intro a H
                  refine s_op H rfl rfl (by decide) (x_move H rfl rfl) ?_
                  clear H a; intro a H
                  refine s_op H rfl rfl (by decide) (x_binI H rfl rfl rfl (b_add (z := wn (wat (add8 s r).l i)) (by rw [add8_at s r i hlt]; exact add_wn _ _))) ?_
                  clear H a; intro a H
                  refine s_op H rfl rfl (by decide) (x_nilCheck H rfl rfl) ?_
                  clear H a; intro a H
                  refine s_op H rfl rfl (by decide) (x_fieldAddr H rfl rfl (fa74_0 _ _)) ?_
                  clear H a; intro a H
                  refine s_op H rfl rfl (by decide) (x_indexAddr H rfl rfl rfl (i_arr0 (m := i) Tryd.underlying67 Tryd.sizeOf66 rfl (by omega))) ?_
                  clear H a; intro a H
                  refine wpStill_nil ?_
                  refine e_st H rfl rfl (x_store H rfl rfl rfl (st_cell rfl rfl Tryd.sizeOf66 (HS.dr.blk.frozen i) (HS.dr.some i (by omega)))) ?_
                  have H3 := HS.dr.setW i hlt (wat (add8 s r).l i)
                  rw [take_set (add8 s r).l s.l i (by rw [S8.len]; exact hlt) rfl] at H3
                  have F3 := F0.dr.st g i (.int .u32 (wn (wat (add8 s r).l i))) (.inl (by simp))
                  refine e_nil (hR.out _ _ ?_)
                  clear hR R
                  refine hK36 _ _ ?_
                  clear hK36 K36
                  refine e_region (fun R hR => ?_)
                  refine e_op H rfl rfl (by decide) (x_binI H rfl rfl rfl (b_add (z := ((i + 1 : Nat) : Int)) (by rw [IntKind.wrap_i64]; omega))) ?_
                  clear H a; intro a H
                  refine e_op H rfl rfl (by decide) (x_move H rfl rfl) ?_
                  clear H a; intro a H
                  refine e_nil (hR.out _ _ ?_)
                  clear hR R
                  exact ⟨8 - (i + 1), by omega, i + 1, by omega, rfl, H.sub ⟨rfl, rfl, rfl, trivial⟩, H3, F3⟩
                · skip
                  obtain rfl : i = 8 := by omega
                  refine wp_seq_k (fun K38 hK38 => ?_)
                  refine e_region (fun R hR => ?_)
                  refine e_op H rfl rfl (by decide) (x_binI H rfl rfl rfl (b_lss (b := false) (dec_f (by omega)))) ?_
                  clear H a; intro a H
                  refine e_nil (hR.out _ _ ?_)
                  clear hR R
                  refine hK38 _ _ ?_
                  clear hK38 K38
                  refine wp_seq_k (fun K39 hK39 => ?_)
                  refine c_false H rfl ?_
                  refine wp_exit ?_
                  refine t_exit ?_
                  refine t_exit ?_
                  refine b_hit ?_
                  clear hK39 K39
                  refine end0 H rfl ?_
                  rw [hr] at HS
                  exact ⟨rfl, HS, F0⟩
end Go.Proofs.YtknllmcpogoeoaaDoor
