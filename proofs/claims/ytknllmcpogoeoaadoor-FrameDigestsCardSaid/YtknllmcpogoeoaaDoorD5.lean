/- The method Sum, walked. -/
import Derived.Test.YtknllmcpogoeoaaDoorD4
namespace Go.Proofs.YtknllmcpogoeoaaDoor
open Go.RowKit
set_option linter.unusedVariables false
set_option linter.unusedSimpArgs false
set_option maxRecDepth 100000
theorem sum_nil (w0 : World) : Calls Tryd.prog 21 #[.pointer none] w0 fun e w' => e = .returned (.agg (u8s (List.replicate 32 0)).toArray) ∧ Ext w0 w' := by
  refine calls_has (args := [.pointer none]) Tryd.func21 rfl Tryd.ntmps21 (Nat.le_of_ble_eq_true rfl) (fun a H => ?_)
  simp only [argl, Nat.reduceAdd] at H
  refine wp_seq_k (fun K1 hK1 => ?_)
  refine e_region (fun R hR => ?_)
  refine e_op H rfl rfl (by decide) (x_alloc H rfl (al_new (z26 _))) ?_
  clear H a; intro a H
  refine e_nil (hR.out _ _ ?_)
  clear hR R
  refine hK1 _ _ ?_
  clear hK1 K1
  refine wp_seq_k (fun K2 hK2 => ?_)
  refine wp_seq_k (fun K3 hK3 => ?_)
  refine e_region (fun R hR => ?_)
  refine e_op H rfl rfl (by decide) (x_move H rfl rfl) ?_
  clear H a; intro a H
  refine e_op H rfl rfl (by decide) (x_bin H rfl rfl rfl (by rw [eqGuard_at_pointer]; rfl) (b_pnil (c := true) Tryd.underlying30 rfl)) ?_
  clear H a; intro a H
  refine e_nil (hR.out _ _ ?_)
  clear hR R
  refine hK3 _ _ ?_
  clear hK3 K3
  refine c_true H rfl ?_
  refine wp_seq_k (fun K4 hK4 => ?_)
  refine e_region (fun R hR => ?_)
  refine e_op H rfl rfl (by decide) (x_build (v := .agg (u8s (List.replicate 32 0)).toArray) H rfl rfl (run_build _ 26 _ _ (by kernel_rfl))) ?_
  clear H a; intro a H
  refine e_st H rfl rfl (x_store H rfl rfl rfl (st_row (heap_alloc_new w0 _) (by kernel_rfl) rfl (by kernel_rfl))) ?_
  refine e_nil (hR.out _ _ ?_)
  clear hR R
  refine hK4 _ _ ?_
  clear hK4 K4
  refine wp_ret ?_
  refine t_ret ?_
  refine retc H rfl rfl (setRow_heap _ _ _ _ 26 (0, 0) (heap_alloc_new w0 _)) Tryd.underlying26 rfl (by kernel_rfl) ⟨rfl, ?_⟩
  exact ((Ext.refl w0).al _).row_ (Nat.le_refl _) _
set_option maxHeartbeats 4000000 in
theorem sum_lt (g : Nat) (l : List UInt8) (w0 : World) (h : HashIs w0 g l) (K0 : Kc w0) (h0 : 0 < w0.heap.size) (hb : l.length < 2305843009213693952) (hlt8 : l.length % 64 < 56) :
    Calls Tryd.prog 21 #[.pointer (some ⟨g, 0, none⟩)] w0 fun e w' => e = .returned (.agg (u8s (sha l)).toArray) ∧ Ext w0 w' := by
  obtain ⟨bs, HS, hbs⟩ := h
  have hpn : padn l.length = 56 - l.length % 64 := by unfold padn; rw [if_pos hlt8]
  refine calls_has (args := [.pointer (some ⟨g, 0, none⟩)]) Tryd.func21 rfl Tryd.ntmps21 (Nat.le_of_ble_eq_true rfl) (fun a H => ?_)
  simp only [argl, Nat.reduceAdd] at H
  refine wp_seq_k (fun K1 hK1 => ?_)
  refine e_region (fun R hR => ?_)
  refine e_op H rfl rfl (by decide) (x_alloc H rfl (al_new (z26 _))) ?_
  clear H a; intro a H
  have D1 := Blk.new w0 26 (u8s (List.replicate 32 0))
  have E1 := (Ext.refl w0).al (.cells (u8s (List.replicate 32 0)).toArray 26)
  obtain ⟨gd, hgd⟩ : ∃ gd, gd = w0.heap.size := ⟨_, rfl⟩
  rw [← hgd] at H D1
  generalize w0.alloc (.cells (u8s (List.replicate 32 0)).toArray 26) = w1 at *
  refine e_nil (hR.out _ _ ?_)
  clear hR R
  refine hK1 _ _ ?_
  clear hK1 K1
  refine wp_seq_k (fun K2 hK2 => ?_)
  refine wp_seq_k (fun K3 hK3 => ?_)
  refine e_region (fun R hR => ?_)
  refine e_op H rfl rfl (by decide) (x_move H rfl rfl) ?_
  clear H a; intro a H
  refine e_op H rfl rfl (by decide) (x_bin H rfl rfl rfl (by rw [eqGuard_at_pointer]; rfl) (b_pnil (c := false) Tryd.underlying30 rfl)) ?_
  clear H a; intro a H
  refine e_nil (hR.out _ _ ?_)
  clear hR R
  refine hK3 _ _ ?_
  clear hK3 K3
  refine c_false H rfl ?_
  refine wp_skip ?_
  refine hK2 _ _ ?_
  clear hK2 K2
  refine wp_seq_k (fun K4 hK4 => ?_)
  refine e_region (fun R hR => ?_)
  have HS1 := HS.ext E1
  refine e_op H rfl rfl (by decide) (x_move H rfl rfl) ?_
  clear H a; intro a H
  refine e_op H rfl rfl (by decide) (x_nilCheck H rfl rfl) ?_
  clear H a; intro a H
  refine e_op H rfl rfl (by decide) (x_load H rfl rfl (l_row HS1.blk Tryd.underlying74 rfl (by rw [size_hsh HS]; kernel_rfl))) ?_
  clear H a; intro a H
  refine e_op H rfl rfl (by decide) (x_alloc H rfl (al_new (Tryd.zeroValue74 _))) ?_
  clear H a; intro a H
  have B4 := heap_alloc_new w1 (.cells Tryd.zeroCells74 74)
  have E2 := E1.al (.cells Tryd.zeroCells74 74)
  have D2 := D1.alloc (.cells Tryd.zeroCells74 74)
  obtain ⟨g3, hg3⟩ : ∃ g3, g3 = w1.heap.size := ⟨_, rfl⟩
  rw [← hg3] at H B4
  generalize w1.alloc (.cells Tryd.zeroCells74 74) = w2 at *
  have hs1 := E1.sz
  have hd3 : gd < g3 := by have := D1.lt; omega
  refine e_st H rfl rfl (x_store H rfl rfl rfl (st_row B4 (by rw [size_hsh HS]; kernel_rfl) (by rw [size_hsh HS]; exact Tryd.zeroCells74_size) (one_hsh _ _ _))) ?_
  have B5 : Blk (w2.setRow g3 (u32s (blk l (l.length / 64)).l ++ u8s bs ++ [Value.int .u64 (l.length : Int)]).toArray) g3 74 (u32s (blk l (l.length / 64)).l ++ u8s bs ++ [Value.int .u64 (l.length : Int)]) := setRow_heap w2 g3 _ _ 74 (0, 0) B4
  have E3 := E2.row_ (g := g3) (by omega) (u32s (blk l (l.length / 64)).l ++ u8s bs ++ [Value.int .u64 (l.length : Int)]).toArray
  have D3 := D2.grown (grown_setRow w2 g3 (u32s (blk l (l.length / 64)).l ++ u8s bs ++ [Value.int .u64 (l.length : Int)]).toArray) (by simp; omega)
  generalize w2.setRow g3 (u32s (blk l (l.length / 64)).l ++ u8s bs ++ [Value.int .u64 (l.length : Int)]).toArray = w3 at *
  have H3 : Hsh w3 g3 (blk l (l.length / 64)).l bs l.length := ⟨B5, HS.l8, HS.l64⟩
  refine e_nil (hR.out _ _ ?_)
  clear hR R
  refine hK4 _ _ ?_
  clear hK4 K4
  refine wp_seq_k (fun K5 hK5 => ?_)
  refine e_region (fun R hR => ?_)
  refine e_op H rfl rfl (by decide) (x_fieldAddr H rfl rfl (fa74_2 _ _)) ?_
  clear H a; intro a H
  refine e_op H rfl rfl (by decide) (x_load H rfl rfl (l_cell Tryd.isAgg39 (H3.tot))) ?_
  clear H a; intro a H
  refine e_op H rfl rfl (by decide) (x_binI H rfl rfl rfl (b_rem (z := ((l.length % 64 : Nat) : Int)) (by decide) (by rw [Int.tmod_eq_emod_of_nonneg (by omega)]; omega))) ?_
  clear H a; intro a H
  refine e_op H rfl rfl (by decide) (x_conv H rfl rfl (c_int (z := ((l.length % 64 : Nat) : Int)) Tryd.underlying39 Tryd.underlying3 (wrap_i64_small _ (by omega) (by omega)))) ?_
  clear H a; intro a H
  refine e_op H rfl rfl (by decide) (x_assign H rfl rfl) ?_
  clear H a; intro a H
  refine e_nil (hR.out _ _ ?_)
  clear hR R
  refine hK5 _ _ ?_
  clear hK5 K5
  refine wp_seq_k (fun K6 hK6 => ?_)
  refine e_region (fun R hR => ?_)
  refine e_op H rfl rfl (by decide) (x_move H rfl rfl) ?_
  clear H a; intro a H
  refine e_op H rfl rfl (by decide) (x_binI H rfl rfl rfl (b_sub (z := (56 - (l.length % 64 : Nat) : Int)) (by rw [IntKind.wrap_i64]; omega))) ?_
  clear H a; intro a H
  refine e_op H rfl rfl (by decide) (x_assign H rfl rfl) ?_
  clear H a; intro a H
  refine e_nil (hR.out _ _ ?_)
  clear hR R
  refine hK6 _ _ ?_
  clear hK6 K6
  refine wp_seq_k (fun K7 hK7 => ?_)
  refine wp_seq_k (fun K8 hK8 => ?_)
  refine e_region (fun R hR => ?_)
  refine e_op H rfl rfl (by decide) (x_move H rfl rfl) ?_
  clear H a; intro a H
  refine e_op H rfl rfl (by decide) (x_binI H rfl rfl rfl (b_leq (b := false) (dec_f (by omega)))) ?_
  clear H a; intro a H
  refine e_nil (hR.out _ _ ?_)
  clear hR R
  refine hK8 _ _ ?_
  clear hK8 K8
  refine c_false H rfl ?_
  refine wp_skip ?_
  refine hK7 _ _ ?_
  clear hK7 K7
  refine wp_seq_k (fun K9 hK9 => ?_)
  refine e_region (fun R hR => ?_)
  rw [show (56 - ((l.length % 64 : Nat) : Int) : Int) = ((padn l.length : Nat) : Int) by omega] at H
  have hpp := padn_pos l.length
  refine e_op H rfl rfl (by decide) (x_move H rfl rfl) ?_
  clear H a; intro a H
  refine e_op H rfl rfl (by decide) (x_move H rfl rfl) ?_
  clear H a; intro a H
  refine e_op H rfl rfl (by decide) (x_binI H rfl rfl rfl (b_add (z := ((padn l.length + 8 : Nat) : Int)) (by rw [IntKind.wrap_i64]; omega))) ?_
  clear H a; intro a H
  refine e_op H rfl rfl (by decide) (x_makeSlice H rfl rfl rfl (mk_u8 (n := padn l.length) (c := padn l.length + 8) rfl rfl (by omega) (by omega))) ?_
  clear H a; intro a H
  have P1 := Blk.new w3 5 (u8s (List.replicate (padn l.length + 8) 0))
  have E4 := E3.al (.cells (u8s (List.replicate (padn l.length + 8) 0)).toArray 5)
  have D4 := D3.alloc (.cells (u8s (List.replicate (padn l.length + 8) 0)).toArray 5)
  have H4 := H3.ext ((Ext.refl w3).al (.cells (u8s (List.replicate (padn l.length + 8) 0)).toArray 5))
  obtain ⟨g4, hg4⟩ : ∃ g4, g4 = w3.heap.size := ⟨_, rfl⟩
  rw [← hg4] at H P1
  have h34 : g3 < g4 := by have := B5.lt; omega
  generalize w3.alloc (.cells (u8s (List.replicate (padn l.length + 8) 0)).toArray 5) = w4 at *
  refine e_op H rfl rfl (by decide) (x_assign H rfl rfl) ?_
  clear H a; intro a H
  refine e_nil (hR.out _ _ ?_)
  clear hR R
  refine hK9 _ _ ?_
  clear hK9 K9
  refine wp_seq_k (fun K10 hK10 => ?_)
  refine e_region (fun R hR => ?_)
  refine e_op H rfl rfl (by decide) (x_move H rfl rfl) ?_
  clear H a; intro a H
  refine e_op H rfl rfl (by decide) (x_indexAddr H rfl rfl rfl (i_sl0 (m := 0) Tryd.underlying22 Tryd.sizeOf5 rfl (by omega))) ?_
  clear H a; intro a H
  refine e_st H rfl rfl (x_store H rfl rfl rfl (st_cell rfl rfl Tryd.sizeOf5 (P1.frozen 0) (P1.isSome 0 (by simp [u8s_len])))) ?_
  have P2 := P1.setU8 0 128
  have E5 := E4.st (g := g4) (by omega) 0 (.int .u8 128)
  have D5 := D4.far (b := g4) (o := 0) (by omega) (.int .u8 128)
  have H5 := H4.frm ((Frm.refl [g4] w4).st g4 0 (.int .u8 128) (.inl (by simp))) (by simp; omega)
  generalize hw5 : w4.setCell ⟨g4, 0, none⟩ (.int .u8 128) = w5 at *
  have hP2 : (List.replicate (padn l.length + 8) (0 : UInt8)).set 0 128 = pad1 l.length ++ List.replicate 8 0 := by
    rw [show padn l.length + 8 = (padn l.length - 1 + 8) + 1 by omega, List.replicate_succ, List.set_cons_zero, ← List.replicate_append_replicate]
    rfl
  rw [hP2, show w4.setCell ⟨g4, 0, none⟩ (.int .u8 (((128 : UInt8).toNat : Nat) : Int)) = w5 from hw5] at P2
  have O5 : Ow w5 g4 (some ⟨g4, 0, none⟩) (padn l.length) (padn l.length + 8) (pad1 l.length) :=
    Ow.mk (pad1_len _) (Nat.le_refl _) P2 (by omega) (by unfold maxLen; omega) (by simp [u8s_len, pad1_len]) (by rw [u8s_app, List.take_append_of_le_length (by simp [u8s_len, pad1_len]), List.take_of_length_le (by simp [u8s_len, pad1_len])])
  refine e_nil (hR.out _ _ ?_)
  clear hR R
  refine hK10 _ _ ?_
  clear hK10 K10
  refine wp_seq_k (fun K11 hK11 => ?_)
  refine e_region (fun R hR => ?_)
  refine e_op H rfl rfl (by decide) (x_move H rfl rfl) ?_
  clear H a; intro a H
  refine e_op H rfl rfl (by decide) (x_move H rfl rfl) ?_
  clear H a; intro a H
  refine e_op H rfl rfl (by decide) (x_nilCheck H rfl rfl) ?_
  clear H a; intro a H
  refine e_op H rfl rfl (by decide) (x_fieldAddr H rfl rfl (fa74_2 _ _)) ?_
  clear H a; intro a H
  refine e_op H rfl rfl (by decide) (x_load H rfl rfl (l_cell Tryd.isAgg39 ((HS.ext E5).tot))) ?_
  clear H a; intro a H
  refine e_op H rfl rfl (by decide) (x_binI H rfl rfl rfl (b_shl (z := ((8 * l.length % 18446744073709551616 : Nat) : Int)) (by decide) (by rw [min_b64 (i := (3 : Int)) 3 rfl (by omega), IntKind.wrap_u64]; omega))) ?_
  clear H a; intro a H
  refine e_callq H rfl rfl (by decide) rfl rfl (Tryd.call44 _) (eight_any (8 * l.length % 18446744073709551616) w5 (by omega)) ?_
  clear H a
  rintro e w6 ⟨g6, rfl, B6, hg6, E56⟩
  refine ⟨_, rfl, fun a H => ?_⟩
  have hs5 := E5.sz
  have O6 : Ow w6 g4 (some ⟨g4, 0, none⟩) (padn l.length) (padn l.length + 8) (pad1 l.length) := E56.row O5
  have H6 := H5.ext E56
  have D6 := D5.ext E56
  have E6 := E5.tr E56
  obtain ⟨a7, c7, w7, hrun, O7, G7⟩ := run_app w6 22 g4 (some ⟨g4, 0, none⟩) (padn l.length) (padn l.length + 8) (pad1 l.length) (some ⟨g6, 0, none⟩) 8 8 (be8 (8 * l.length % 18446744073709551616)) O6 (B6.bs (be8_len _)) (by omega) (by have := (O6.lt rfl).2; omega) (fun h => by cases h)
  have hO7 := O7.cap
  refine e_op H rfl rfl (by decide) (x_builtin H rfl rfl (fun cs => bi_app hrun)) ?_
  clear H a; intro a H
  have G7F : Frm [g4] w6 w7 := (Frm.refl [g4] w6).grown G7 (fun k e => by simp only [Value.ownBlock, Option.some.injEq] at e; left; simp [e])
  have E7 := G7F.ext E6 (fun x hx => by simp only [List.mem_singleton] at hx; omega)
  have F07 : Frm [g4] w0 w7 := E7.frm
  refine e_callq H rfl rfl (by decide) rfl rfl (Tryd.call19 _) (write_any g3 l _ a7 (padn l.length + 8) c7 w7 ⟨bs, H6.frm G7F (by simp; omega), hbs⟩ ⟨O7.bs, hO7.1, hO7.2, fun b o e _ => by have := (O7.lt e).1; omega⟩ (K0.frm F07 (by simp; omega)) (by omega) (by omega)) ?_
  clear H a
  rintro e w8 ⟨rfl, H8, F8⟩
  refine ⟨_, rfl, fun a H => ?_⟩
  have E8 := F8.ext E7 (fun x hx => by simp only [List.mem_singleton] at hx; omega)
  have D8 := (D6.frm G7F (by simp; omega)).frm F8 (by simp; omega)
  rw [show l ++ (pad1 l.length ++ be8 (8 * l.length % 18446744073709551616)) = padded l from rfl] at H8
  obtain ⟨bs8, HS8, hbs8⟩ := H8
  obtain ⟨S, hS⟩ : ∃ S, S = blk (padded l) ((padded l).length / 64) := ⟨_, rfl⟩
  rw [← hS] at HS8
  refine e_nil (hR.out _ _ ?_)
  clear hR R
  refine hK11 _ _ ?_
  clear hK11 K11
  refine wp_seq_k (fun K12 hK12 => ?_)
  refine e_region (fun R hR => ?_)
  refine e_op H rfl rfl (by decide) (x_alloc H rfl (al_new (z26 _))) ?_
  clear H a; intro a H
  have Q1 := Blk.new w8 26 (u8s (List.replicate 32 0))
  have E9 := E8.al (.cells (u8s (List.replicate 32 0)).toArray 26)
  have D9 := D8.alloc (.cells (u8s (List.replicate 32 0)).toArray 26)
  have H9 := HS8.ext ((Ext.refl w8).al (.cells (u8s (List.replicate 32 0)).toArray 26))
  obtain ⟨g7, hg7⟩ : ∃ g7, g7 = w8.heap.size := ⟨_, rfl⟩
  rw [← hg7] at H Q1
  have h37 : g3 < g7 := by have := HS8.blk.lt; omega
  have hd7 : gd < g7 := by omega
  have hs8 := E8.sz
  clear D1 D2 D3 D4 D5 D6 E1 E2 E3 E4 E5 E6 H3 H4 H5 H6 HS1 P1 P2 O5 O6 O7 B4 B5 B6 G7 hrun hw5 hP2 E7 E8 D8 F07 F8 G7F E56 HS8
  generalize w8.alloc (.cells (u8s (List.replicate 32 0)).toArray 26) = w9 at *
  refine e_nil (hR.out _ _ ?_)
  clear hR R
  refine hK12 _ _ ?_
  clear hK12 K12
  refine wp_seq_k (fun K13 hK13 => ?_)
  refine wp_seq_k (fun K14 hK14 => ?_)
  refine e_region (fun R hR => ?_)
  have hw8 : ∀ j v, (u32s S.l)[j]? = some v → w9.cell? ⟨g3, 0 + j, none⟩ = some v := fun j v hv => by
    have hj : j < 8 := by have := (List.getElem?_eq_some_iff.1 hv).1; simpa [u32s_len, S8.len] using this
    rw [Nat.zero_add, H9.word j hj]
    rw [u32s_get S.l j hj] at hv
    exact hv
  refine e_op H rfl rfl (by decide) (x_fieldAddr H rfl rfl (fa74_0 _ _)) ?_
  clear H a; intro a H
  refine e_op H rfl rfl (by decide) (x_load H rfl rfl (l_part (off := 0) (cs := u32s S.l) Tryd.isAgg67 Tryd.sizeOf67 hw8)) ?_
  clear H a; intro a H
  refine e_op H rfl rfl (by decide) (x_move H rfl rfl) ?_
  clear H a; intro a H
  refine e_nil (hR.out _ _ ?_)
  clear hR R
  refine hK14 _ _ ?_
  clear hK14 K14
  refine wp_block ?_
  refine wp_loop_ghost (fun n a w => ∃ i : Nat, i ≤ 8 ∧ n = 8 - i ∧ Has a 75 [(2, .pointer (some ⟨gd, 0, none⟩)), (7, .pointer (some ⟨g7, 0, none⟩)), (42, .agg (u32s S.l).toArray), (43, .int .i64 (i : Int))] ∧ Blk w g7 26 (u8s (oP S.l i ++ List.replicate (32 - 4 * i) 0)) ∧ Blk w gd 26 (u8s (List.replicate 32 0)) ∧ Ext w0 w) (8) ?_ ?_
  · skip
    exact ⟨0, by omega, rfl, H.sub ⟨rfl, rfl, rfl, rfl, trivial⟩, Q1, D9, E9⟩
  · skip
    clear Q1 D9 E9 hw8 H9 H a
    intro n a w hI
    obtain ⟨i, hi, rfl, H, Q1, D1, E1⟩ := hI
    rcases Nat.lt_or_ge i 8 with hlt | hge
    · skip
      obtain ⟨x, hx⟩ : ∃ x, x = wat S.l i := ⟨_, rfl⟩
      refine wp_seq_k (fun K15 hK15 => ?_)
      refine e_region (fun R hR => ?_)
      refine e_op H rfl rfl (by decide) (x_binI H rfl rfl rfl (b_lss (b := true) (dec_t (by omega)))) ?_
      clear H a; intro a H
      refine e_nil (hR.out _ _ ?_)
      clear hR R
      refine hK15 _ _ ?_
      clear hK15 K15
      refine wp_seq_k (fun K16 hK16 => ?_)
      refine c_true H rfl ?_
      refine wp_skip ?_
      refine hK16 _ _ ?_
      clear hK16 K16
      refine wp_seq_k (fun K17 hK17 => ?_)
      refine wp_block ?_
      refine wp_seq_k (fun K18 hK18 => ?_)
      refine e_region (fun R hR => ?_)
      refine e_op H rfl rfl (by decide) (x_move H rfl rfl) ?_
      clear H a; intro a H
      refine e_op H rfl rfl (by decide) (x_index H rfl rfl rfl (i_val (m := i) Tryd.underlying67 Tryd.sizeOf66 Tryd.isAgg66 (rfl) (by omega) (show (u32s S.l).toArray[i]? = some (Value.int .u32 (wn x)) by rw [List.getElem?_toArray, hx]; exact u32s_get S.l i hlt))) ?_
      clear H a; intro a H
      refine e_op H rfl rfl (by decide) (x_assign H rfl rfl) ?_
      clear H a; intro a H
      refine e_op H rfl rfl (by decide) (x_assign H rfl rfl) ?_
      clear H a; intro a H
      refine e_nil (hR.out _ _ ?_)
      clear hR R
      refine hK18 _ _ ?_
      clear hK18 K18
      refine e_region (fun R hR => ?_)
      have hol := oP_len S.l i (by rw [S8.len]; omega)
      refine e_op H rfl rfl (by decide) (x_move H rfl rfl) ?_
      clear H a; intro a H
      refine e_op H rfl rfl (by decide) (x_binI H rfl rfl rfl (b_mul (z := ((4 * i : Nat) : Int)) (by rw [IntKind.wrap_i64]; omega))) ?_
      clear H a; intro a H
      refine e_op H rfl rfl (by decide) (x_move H rfl rfl) ?_
      clear H a; intro a H
      refine e_op H rfl rfl (by decide) (x_binI H rfl rfl rfl (b_mul (z := ((4 * i : Nat) : Int)) (by rw [IntKind.wrap_i64]; omega))) ?_
      clear H a; intro a H
      refine e_op H rfl rfl (by decide) (x_binI H rfl rfl rfl (b_add (z := ((4 * i + 1 : Nat) : Int)) (by rw [IntKind.wrap_i64]; omega))) ?_
      clear H a; intro a H
      refine e_op H rfl rfl (by decide) (x_move H rfl rfl) ?_
      clear H a; intro a H
      refine e_op H rfl rfl (by decide) (x_binI H rfl rfl rfl (b_mul (z := ((4 * i : Nat) : Int)) (by rw [IntKind.wrap_i64]; omega))) ?_
      clear H a; intro a H
      refine e_op H rfl rfl (by decide) (x_binI H rfl rfl rfl (b_add (z := ((4 * i + 2 : Nat) : Int)) (by rw [IntKind.wrap_i64]; omega))) ?_
      clear H a; intro a H
      refine e_op H rfl rfl (by decide) (x_move H rfl rfl) ?_
      clear H a; intro a H
      refine e_op H rfl rfl (by decide) (x_binI H rfl rfl rfl (b_mul (z := ((4 * i : Nat) : Int)) (by rw [IntKind.wrap_i64]; omega))) ?_
      clear H a; intro a H
      refine e_op H rfl rfl (by decide) (x_binI H rfl rfl rfl (b_add (z := ((4 * i + 3 : Nat) : Int)) (by rw [IntKind.wrap_i64]; omega))) ?_
      clear H a; intro a H
      refine e_op H rfl rfl (by decide) (x_move H rfl rfl) ?_
      clear H a; intro a H
      refine e_op H rfl rfl (by decide) (x_binI H rfl rfl rfl (b_shr (z := ((x.toNat / 16777216 : Nat) : Int)) (by decide) (shr_b x 24 (by omega) rfl))) ?_
      clear H a; intro a H
      refine e_op H rfl rfl (by decide) (x_conv H rfl rfl (c_int (z := ((UInt8.ofNat (x.toNat / 16777216)).toNat : Int)) Tryd.underlying66 Tryd.underlying5 (wrap_u8_nat _))) ?_
      clear H a; intro a H
      refine e_op H rfl rfl (by decide) (x_move H rfl rfl) ?_
      clear H a; intro a H
      refine e_op H rfl rfl (by decide) (x_binI H rfl rfl rfl (b_shr (z := ((x.toNat / 65536 : Nat) : Int)) (by decide) (shr_b x 16 (by omega) rfl))) ?_
      clear H a; intro a H
      refine e_op H rfl rfl (by decide) (x_conv H rfl rfl (c_int (z := ((UInt8.ofNat (x.toNat / 65536)).toNat : Int)) Tryd.underlying66 Tryd.underlying5 (wrap_u8_nat _))) ?_
      clear H a; intro a H
      refine e_op H rfl rfl (by decide) (x_move H rfl rfl) ?_
      clear H a; intro a H
      refine e_op H rfl rfl (by decide) (x_binI H rfl rfl rfl (b_shr (z := ((x.toNat / 256 : Nat) : Int)) (by decide) (shr_b x 8 (by omega) rfl))) ?_
      clear H a; intro a H
      refine e_op H rfl rfl (by decide) (x_conv H rfl rfl (c_int (z := ((UInt8.ofNat (x.toNat / 256)).toNat : Int)) Tryd.underlying66 Tryd.underlying5 (wrap_u8_nat _))) ?_
      clear H a; intro a H
      refine e_op H rfl rfl (by decide) (x_move H rfl rfl) ?_
      clear H a; intro a H
      refine e_op H rfl rfl (by decide) (x_conv H rfl rfl (c_int (z := ((UInt8.ofNat x.toNat).toNat : Int)) Tryd.underlying66 Tryd.underlying5 (wrap_u8_nat _))) ?_
      clear H a; intro a H
      refine e_op H rfl rfl (by decide) (x_indexAddr H rfl rfl rfl (i_arr0 (m := 4 * i) Tryd.underlying26 Tryd.sizeOf5 rfl (by omega))) ?_
      clear H a; intro a H
      refine e_st H rfl rfl (x_store H rfl rfl rfl (st_cell rfl rfl Tryd.sizeOf5 (Q1.frozen (4 * i)) (Q1.isSome (4 * i) (by simp [u8s_len, hol]; omega)))) ?_
      have Q2 := Q1.setU8 (4 * i) (UInt8.ofNat (x.toNat / 16777216))
      have E2 := E1.st (g := g7) (by omega) (4 * i) (.int .u8 ((UInt8.ofNat (x.toNat / 16777216)).toNat : Int))
      have D2 := D1.far (b := g7) (o := 4 * i) (by omega) (.int .u8 ((UInt8.ofNat (x.toNat / 16777216)).toNat : Int))
      refine e_op H rfl rfl (by decide) (x_indexAddr H rfl rfl rfl (i_arr0 (m := 4 * i + 1) Tryd.underlying26 Tryd.sizeOf5 rfl (by omega))) ?_
      clear H a; intro a H
      refine e_st H rfl rfl (x_store H rfl rfl rfl (st_cell rfl rfl Tryd.sizeOf5 (Q2.frozen (4 * i + 1)) (Q2.isSome (4 * i + 1) (by simp [u8s_len, hol]; omega)))) ?_
      have Q3 := Q2.setU8 (4 * i + 1) (UInt8.ofNat (x.toNat / 65536))
      have E3 := E2.st (g := g7) (by omega) (4 * i + 1) (.int .u8 ((UInt8.ofNat (x.toNat / 65536)).toNat : Int))
      have D3 := D2.far (b := g7) (o := 4 * i + 1) (by omega) (.int .u8 ((UInt8.ofNat (x.toNat / 65536)).toNat : Int))
      refine e_op H rfl rfl (by decide) (x_indexAddr H rfl rfl rfl (i_arr0 (m := 4 * i + 2) Tryd.underlying26 Tryd.sizeOf5 rfl (by omega))) ?_
      clear H a; intro a H
      refine e_st H rfl rfl (x_store H rfl rfl rfl (st_cell rfl rfl Tryd.sizeOf5 (Q3.frozen (4 * i + 2)) (Q3.isSome (4 * i + 2) (by simp [u8s_len, hol]; omega)))) ?_
      have Q4 := Q3.setU8 (4 * i + 2) (UInt8.ofNat (x.toNat / 256))
      have E4 := E3.st (g := g7) (by omega) (4 * i + 2) (.int .u8 ((UInt8.ofNat (x.toNat / 256)).toNat : Int))
      have D4 := D3.far (b := g7) (o := 4 * i + 2) (by omega) (.int .u8 ((UInt8.ofNat (x.toNat / 256)).toNat : Int))
      refine e_op H rfl rfl (by decide) (x_indexAddr H rfl rfl rfl (i_arr0 (m := 4 * i + 3) Tryd.underlying26 Tryd.sizeOf5 rfl (by omega))) ?_
      clear H a; intro a H
      refine e_st H rfl rfl (x_store H rfl rfl rfl (st_cell rfl rfl Tryd.sizeOf5 (Q4.frozen (4 * i + 3)) (Q4.isSome (4 * i + 3) (by simp [u8s_len, hol]; omega)))) ?_
      have Q5 := Q4.setU8 (4 * i + 3) (UInt8.ofNat x.toNat)
      have E5 := E4.st (g := g7) (by omega) (4 * i + 3) (.int .u8 ((UInt8.ofNat x.toNat).toNat : Int))
      have D5 := D4.far (b := g7) (o := 4 * i + 3) (by omega) (.int .u8 ((UInt8.ofNat x.toNat).toNat : Int))
      refine e_nil (hR.out _ _ ?_)
      clear hR R
      rw [show 32 - 4 * i = (28 - 4 * i) + 4 by omega, fill_u8_4 _ _ _ _ _ _ _ hol, show oP S.l i ++ [UInt8.ofNat (x.toNat / 16777216), UInt8.ofNat (x.toNat / 65536), UInt8.ofNat (x.toNat / 256), UInt8.ofNat x.toNat] = oP S.l (i + 1) by rw [oP_succ S.l i (by rw [S8.len]; exact hlt), ← hx]; rfl, show 28 - 4 * i = 32 - 4 * (i + 1) by omega] at Q5
      refine hK17 _ _ ?_
      clear hK17 K17
      refine e_region (fun R hR => ?_)
      refine e_op H rfl rfl (by decide) (x_binI H rfl rfl rfl (b_add (z := ((i + 1 : Nat) : Int)) (by rw [IntKind.wrap_i64]; omega))) ?_
      clear H a; intro a H
      refine e_op H rfl rfl (by decide) (x_move H rfl rfl) ?_
      clear H a; intro a H
      refine e_nil (hR.out _ _ ?_)
      clear hR R
      exact ⟨8 - (i + 1), by omega, i + 1, by omega, rfl, H.sub ⟨rfl, rfl, rfl, rfl, trivial⟩, Q5, D5, E5⟩
    · skip
      obtain rfl : i = 8 := by omega
      refine wp_seq_k (fun K19 hK19 => ?_)
      refine e_region (fun R hR => ?_)
      refine e_op H rfl rfl (by decide) (x_binI H rfl rfl rfl (b_lss (b := false) (dec_f (by omega)))) ?_
      clear H a; intro a H
      refine e_nil (hR.out _ _ ?_)
      clear hR R
      refine hK19 _ _ ?_
      clear hK19 K19
      refine wp_seq_k (fun K20 hK20 => ?_)
      refine c_false H rfl ?_
      refine wp_exit ?_
      refine t_exit ?_
      refine t_exit ?_
      refine b_hit ?_
      clear hK20 K20
      refine hK13 _ _ ?_
      clear hK13 K13
      refine wp_seq_k (fun K21 hK21 => ?_)
      refine e_region (fun R hR => ?_)
      have Q1 : Blk w g7 26 (u8s (out8 S)) := by simpa [oP_all] using Q1
      refine e_op H rfl rfl (by decide) (x_load H rfl rfl (l_row Q1 Tryd.underlying26 rfl (by kernel_rfl))) ?_
      clear H a; intro a H
      refine e_st H rfl rfl (x_store H rfl rfl rfl (st_row D1 (by kernel_rfl) rfl (by kernel_rfl))) ?_
      refine e_nil (hR.out _ _ ?_)
      clear hR R
      refine hK21 _ _ ?_
      clear hK21 K21
      refine wp_ret ?_
      have hsha : out8 S = sha l := by rw [hS]; rfl
      refine retc H rfl rfl (setRow_heap _ _ _ _ 26 (0, 0) D1) Tryd.underlying26 rfl (by kernel_rfl) ⟨by rw [← hsha], E1.row_ (by omega) _⟩
set_option maxHeartbeats 4000000 in
theorem sum_ge (g : Nat) (l : List UInt8) (w0 : World) (h : HashIs w0 g l) (K0 : Kc w0) (h0 : 0 < w0.heap.size) (hb : l.length < 2305843009213693952) (hlt8 : ¬ l.length % 64 < 56) :
    Calls Tryd.prog 21 #[.pointer (some ⟨g, 0, none⟩)] w0 fun e w' => e = .returned (.agg (u8s (sha l)).toArray) ∧ Ext w0 w' := by
  obtain ⟨bs, HS, hbs⟩ := h
  have hpn : padn l.length = 120 - l.length % 64 := by unfold padn; rw [if_neg hlt8]
  refine calls_has (args := [.pointer (some ⟨g, 0, none⟩)]) Tryd.func21 rfl Tryd.ntmps21 (Nat.le_of_ble_eq_true rfl) (fun a H => ?_)
  simp only [argl, Nat.reduceAdd] at H
  refine wp_seq_k (fun K1 hK1 => ?_)
  refine e_region (fun R hR => ?_)
  refine e_op H rfl rfl (by decide) (x_alloc H rfl (al_new (z26 _))) ?_
  clear H a; intro a H
  have D1 := Blk.new w0 26 (u8s (List.replicate 32 0))
  have E1 := (Ext.refl w0).al (.cells (u8s (List.replicate 32 0)).toArray 26)
  obtain ⟨gd, hgd⟩ : ∃ gd, gd = w0.heap.size := ⟨_, rfl⟩
  rw [← hgd] at H D1
  generalize w0.alloc (.cells (u8s (List.replicate 32 0)).toArray 26) = w1 at *
  refine e_nil (hR.out _ _ ?_)
  clear hR R
  refine hK1 _ _ ?_
  clear hK1 K1
  refine wp_seq_k (fun K2 hK2 => ?_)
  refine wp_seq_k (fun K3 hK3 => ?_)
  refine e_region (fun R hR => ?_)
  refine e_op H rfl rfl (by decide) (x_move H rfl rfl) ?_
  clear H a; intro a H
  refine e_op H rfl rfl (by decide) (x_bin H rfl rfl rfl (by rw [eqGuard_at_pointer]; rfl) (b_pnil (c := false) Tryd.underlying30 rfl)) ?_
  clear H a; intro a H
  refine e_nil (hR.out _ _ ?_)
  clear hR R
  refine hK3 _ _ ?_
  clear hK3 K3
  refine c_false H rfl ?_
  refine wp_skip ?_
  refine hK2 _ _ ?_
  clear hK2 K2
  refine wp_seq_k (fun K4 hK4 => ?_)
  refine e_region (fun R hR => ?_)
  have HS1 := HS.ext E1
  refine e_op H rfl rfl (by decide) (x_move H rfl rfl) ?_
  clear H a; intro a H
  refine e_op H rfl rfl (by decide) (x_nilCheck H rfl rfl) ?_
  clear H a; intro a H
  refine e_op H rfl rfl (by decide) (x_load H rfl rfl (l_row HS1.blk Tryd.underlying74 rfl (by rw [size_hsh HS]; kernel_rfl))) ?_
  clear H a; intro a H
  refine e_op H rfl rfl (by decide) (x_alloc H rfl (al_new (Tryd.zeroValue74 _))) ?_
  clear H a; intro a H
  have B4 := heap_alloc_new w1 (.cells Tryd.zeroCells74 74)
  have E2 := E1.al (.cells Tryd.zeroCells74 74)
  have D2 := D1.alloc (.cells Tryd.zeroCells74 74)
  obtain ⟨g3, hg3⟩ : ∃ g3, g3 = w1.heap.size := ⟨_, rfl⟩
  rw [← hg3] at H B4
  generalize w1.alloc (.cells Tryd.zeroCells74 74) = w2 at *
  have hs1 := E1.sz
  have hd3 : gd < g3 := by have := D1.lt; omega
  refine e_st H rfl rfl (x_store H rfl rfl rfl (st_row B4 (by rw [size_hsh HS]; kernel_rfl) (by rw [size_hsh HS]; exact Tryd.zeroCells74_size) (one_hsh _ _ _))) ?_
  have B5 : Blk (w2.setRow g3 (u32s (blk l (l.length / 64)).l ++ u8s bs ++ [Value.int .u64 (l.length : Int)]).toArray) g3 74 (u32s (blk l (l.length / 64)).l ++ u8s bs ++ [Value.int .u64 (l.length : Int)]) := setRow_heap w2 g3 _ _ 74 (0, 0) B4
  have E3 := E2.row_ (g := g3) (by omega) (u32s (blk l (l.length / 64)).l ++ u8s bs ++ [Value.int .u64 (l.length : Int)]).toArray
  have D3 := D2.grown (grown_setRow w2 g3 (u32s (blk l (l.length / 64)).l ++ u8s bs ++ [Value.int .u64 (l.length : Int)]).toArray) (by simp; omega)
  generalize w2.setRow g3 (u32s (blk l (l.length / 64)).l ++ u8s bs ++ [Value.int .u64 (l.length : Int)]).toArray = w3 at *
  have H3 : Hsh w3 g3 (blk l (l.length / 64)).l bs l.length := ⟨B5, HS.l8, HS.l64⟩
  refine e_nil (hR.out _ _ ?_)
  clear hR R
  refine hK4 _ _ ?_
  clear hK4 K4
  refine wp_seq_k (fun K5 hK5 => ?_)
  refine e_region (fun R hR => ?_)
  refine e_op H rfl rfl (by decide) (x_fieldAddr H rfl rfl (fa74_2 _ _)) ?_
  clear H a; intro a H
  refine e_op H rfl rfl (by decide) (x_load H rfl rfl (l_cell Tryd.isAgg39 (H3.tot))) ?_
  clear H a; intro a H
  refine e_op H rfl rfl (by decide) (x_binI H rfl rfl rfl (b_rem (z := ((l.length % 64 : Nat) : Int)) (by decide) (by rw [Int.tmod_eq_emod_of_nonneg (by omega)]; omega))) ?_
  clear H a; intro a H
  refine e_op H rfl rfl (by decide) (x_conv H rfl rfl (c_int (z := ((l.length % 64 : Nat) : Int)) Tryd.underlying39 Tryd.underlying3 (wrap_i64_small _ (by omega) (by omega)))) ?_
  clear H a; intro a H
  refine e_op H rfl rfl (by decide) (x_assign H rfl rfl) ?_
  clear H a; intro a H
  refine e_nil (hR.out _ _ ?_)
  clear hR R
  refine hK5 _ _ ?_
  clear hK5 K5
  refine wp_seq_k (fun K6 hK6 => ?_)
  refine e_region (fun R hR => ?_)
  refine e_op H rfl rfl (by decide) (x_move H rfl rfl) ?_
  clear H a; intro a H
  refine e_op H rfl rfl (by decide) (x_binI H rfl rfl rfl (b_sub (z := (56 - (l.length % 64 : Nat) : Int)) (by rw [IntKind.wrap_i64]; omega))) ?_
  clear H a; intro a H
  refine e_op H rfl rfl (by decide) (x_assign H rfl rfl) ?_
  clear H a; intro a H
  refine e_nil (hR.out _ _ ?_)
  clear hR R
  refine hK6 _ _ ?_
  clear hK6 K6
  refine wp_seq_k (fun K7 hK7 => ?_)
  refine wp_seq_k (fun K8 hK8 => ?_)
  refine e_region (fun R hR => ?_)
  refine e_op H rfl rfl (by decide) (x_move H rfl rfl) ?_
  clear H a; intro a H
  refine e_op H rfl rfl (by decide) (x_binI H rfl rfl rfl (b_leq (b := true) (dec_t (by omega)))) ?_
  clear H a; intro a H
  refine e_nil (hR.out _ _ ?_)
  clear hR R
  refine hK8 _ _ ?_
  clear hK8 K8
  refine c_true H rfl ?_
  refine e_region (fun R hR => ?_)
  refine e_op H rfl rfl (by decide) (x_move H rfl rfl) ?_
  clear H a; intro a H
  refine e_op H rfl rfl (by decide) (x_binI H rfl rfl rfl (b_add (z := ((padn l.length : Nat) : Int)) (by rw [IntKind.wrap_i64]; omega))) ?_
  clear H a; intro a H
  refine e_op H rfl rfl (by decide) (x_assign H rfl rfl) ?_
  clear H a; intro a H
  refine e_nil (hR.out _ _ ?_)
  clear hR R
  refine hK7 _ _ ?_
  clear hK7 K7
  refine wp_seq_k (fun K9 hK9 => ?_)
  refine e_region (fun R hR => ?_)
  have hpp := padn_pos l.length
  refine e_op H rfl rfl (by decide) (x_move H rfl rfl) ?_
  clear H a; intro a H
  refine e_op H rfl rfl (by decide) (x_move H rfl rfl) ?_
  clear H a; intro a H
  refine e_op H rfl rfl (by decide) (x_binI H rfl rfl rfl (b_add (z := ((padn l.length + 8 : Nat) : Int)) (by rw [IntKind.wrap_i64]; omega))) ?_
  clear H a; intro a H
  refine e_op H rfl rfl (by decide) (x_makeSlice H rfl rfl rfl (mk_u8 (n := padn l.length) (c := padn l.length + 8) rfl rfl (by omega) (by omega))) ?_
  clear H a; intro a H
  have P1 := Blk.new w3 5 (u8s (List.replicate (padn l.length + 8) 0))
  have E4 := E3.al (.cells (u8s (List.replicate (padn l.length + 8) 0)).toArray 5)
  have D4 := D3.alloc (.cells (u8s (List.replicate (padn l.length + 8) 0)).toArray 5)
  have H4 := H3.ext ((Ext.refl w3).al (.cells (u8s (List.replicate (padn l.length + 8) 0)).toArray 5))
  obtain ⟨g4, hg4⟩ : ∃ g4, g4 = w3.heap.size := ⟨_, rfl⟩
  rw [← hg4] at H P1
  have h34 : g3 < g4 := by have := B5.lt; omega
  generalize w3.alloc (.cells (u8s (List.replicate (padn l.length + 8) 0)).toArray 5) = w4 at *
  refine e_op H rfl rfl (by decide) (x_assign H rfl rfl) ?_
  clear H a; intro a H
  refine e_nil (hR.out _ _ ?_)
  clear hR R
  refine hK9 _ _ ?_
  clear hK9 K9
  refine wp_seq_k (fun K10 hK10 => ?_)
  refine e_region (fun R hR => ?_)
  refine e_op H rfl rfl (by decide) (x_move H rfl rfl) ?_
  clear H a; intro a H
  refine e_op H rfl rfl (by decide) (x_indexAddr H rfl rfl rfl (i_sl0 (m := 0) Tryd.underlying22 Tryd.sizeOf5 rfl (by omega))) ?_
  clear H a; intro a H
  refine e_st H rfl rfl (x_store H rfl rfl rfl (st_cell rfl rfl Tryd.sizeOf5 (P1.frozen 0) (P1.isSome 0 (by simp [u8s_len])))) ?_
  have P2 := P1.setU8 0 128
  have E5 := E4.st (g := g4) (by omega) 0 (.int .u8 128)
  have D5 := D4.far (b := g4) (o := 0) (by omega) (.int .u8 128)
  have H5 := H4.frm ((Frm.refl [g4] w4).st g4 0 (.int .u8 128) (.inl (by simp))) (by simp; omega)
  generalize hw5 : w4.setCell ⟨g4, 0, none⟩ (.int .u8 128) = w5 at *
  have hP2 : (List.replicate (padn l.length + 8) (0 : UInt8)).set 0 128 = pad1 l.length ++ List.replicate 8 0 := by
    rw [show padn l.length + 8 = (padn l.length - 1 + 8) + 1 by omega, List.replicate_succ, List.set_cons_zero, ← List.replicate_append_replicate]
    rfl
  rw [hP2, show w4.setCell ⟨g4, 0, none⟩ (.int .u8 (((128 : UInt8).toNat : Nat) : Int)) = w5 from hw5] at P2
  have O5 : Ow w5 g4 (some ⟨g4, 0, none⟩) (padn l.length) (padn l.length + 8) (pad1 l.length) :=
    Ow.mk (pad1_len _) (Nat.le_refl _) P2 (by omega) (by unfold maxLen; omega) (by simp [u8s_len, pad1_len]) (by rw [u8s_app, List.take_append_of_le_length (by simp [u8s_len, pad1_len]), List.take_of_length_le (by simp [u8s_len, pad1_len])])
  refine e_nil (hR.out _ _ ?_)
  clear hR R
  refine hK10 _ _ ?_
  clear hK10 K10
  refine wp_seq_k (fun K11 hK11 => ?_)
  refine e_region (fun R hR => ?_)
  refine e_op H rfl rfl (by decide) (x_move H rfl rfl) ?_
  clear H a; intro a H
  refine e_op H rfl rfl (by decide) (x_move H rfl rfl) ?_
  clear H a; intro a H
  refine e_op H rfl rfl (by decide) (x_nilCheck H rfl rfl) ?_
  clear H a; intro a H
  refine e_op H rfl rfl (by decide) (x_fieldAddr H rfl rfl (fa74_2 _ _)) ?_
  clear H a; intro a H
  refine e_op H rfl rfl (by decide) (x_load H rfl rfl (l_cell Tryd.isAgg39 ((HS.ext E5).tot))) ?_
  clear H a; intro a H
  refine e_op H rfl rfl (by decide) (x_binI H rfl rfl rfl (b_shl (z := ((8 * l.length % 18446744073709551616 : Nat) : Int)) (by decide) (by rw [min_b64 (i := (3 : Int)) 3 rfl (by omega), IntKind.wrap_u64]; omega))) ?_
  clear H a; intro a H
  refine e_callq H rfl rfl (by decide) rfl rfl (Tryd.call44 _) (eight_any (8 * l.length % 18446744073709551616) w5 (by omega)) ?_
  clear H a
  rintro e w6 ⟨g6, rfl, B6, hg6, E56⟩
  refine ⟨_, rfl, fun a H => ?_⟩
  have hs5 := E5.sz
  have O6 : Ow w6 g4 (some ⟨g4, 0, none⟩) (padn l.length) (padn l.length + 8) (pad1 l.length) := E56.row O5
  have H6 := H5.ext E56
  have D6 := D5.ext E56
  have E6 := E5.tr E56
  obtain ⟨a7, c7, w7, hrun, O7, G7⟩ := run_app w6 22 g4 (some ⟨g4, 0, none⟩) (padn l.length) (padn l.length + 8) (pad1 l.length) (some ⟨g6, 0, none⟩) 8 8 (be8 (8 * l.length % 18446744073709551616)) O6 (B6.bs (be8_len _)) (by omega) (by have := (O6.lt rfl).2; omega) (fun h => by cases h)
  have hO7 := O7.cap
  refine e_op H rfl rfl (by decide) (x_builtin H rfl rfl (fun cs => bi_app hrun)) ?_
  clear H a; intro a H
  have G7F : Frm [g4] w6 w7 := (Frm.refl [g4] w6).grown G7 (fun k e => by simp only [Value.ownBlock, Option.some.injEq] at e; left; simp [e])
  have E7 := G7F.ext E6 (fun x hx => by simp only [List.mem_singleton] at hx; omega)
  have F07 : Frm [g4] w0 w7 := E7.frm
  refine e_callq H rfl rfl (by decide) rfl rfl (Tryd.call19 _) (write_any g3 l _ a7 (padn l.length + 8) c7 w7 ⟨bs, H6.frm G7F (by simp; omega), hbs⟩ ⟨O7.bs, hO7.1, hO7.2, fun b o e _ => by have := (O7.lt e).1; omega⟩ (K0.frm F07 (by simp; omega)) (by omega) (by omega)) ?_
  clear H a
  rintro e w8 ⟨rfl, H8, F8⟩
  refine ⟨_, rfl, fun a H => ?_⟩
  have E8 := F8.ext E7 (fun x hx => by simp only [List.mem_singleton] at hx; omega)
  have D8 := (D6.frm G7F (by simp; omega)).frm F8 (by simp; omega)
  rw [show l ++ (pad1 l.length ++ be8 (8 * l.length % 18446744073709551616)) = padded l from rfl] at H8
  obtain ⟨bs8, HS8, hbs8⟩ := H8
  obtain ⟨S, hS⟩ : ∃ S, S = blk (padded l) ((padded l).length / 64) := ⟨_, rfl⟩
  rw [← hS] at HS8
  refine e_nil (hR.out _ _ ?_)
  clear hR R
  refine hK11 _ _ ?_
  clear hK11 K11
  refine wp_seq_k (fun K12 hK12 => ?_)
  refine e_region (fun R hR => ?_)
  refine e_op H rfl rfl (by decide) (x_alloc H rfl (al_new (z26 _))) ?_
  clear H a; intro a H
  have Q1 := Blk.new w8 26 (u8s (List.replicate 32 0))
  have E9 := E8.al (.cells (u8s (List.replicate 32 0)).toArray 26)
  have D9 := D8.alloc (.cells (u8s (List.replicate 32 0)).toArray 26)
  have H9 := HS8.ext ((Ext.refl w8).al (.cells (u8s (List.replicate 32 0)).toArray 26))
  obtain ⟨g7, hg7⟩ : ∃ g7, g7 = w8.heap.size := ⟨_, rfl⟩
  rw [← hg7] at H Q1
  have h37 : g3 < g7 := by have := HS8.blk.lt; omega
  have hd7 : gd < g7 := by omega
  have hs8 := E8.sz
  clear D1 D2 D3 D4 D5 D6 E1 E2 E3 E4 E5 E6 H3 H4 H5 H6 HS1 P1 P2 O5 O6 O7 B4 B5 B6 G7 hrun hw5 hP2 E7 E8 D8 F07 F8 G7F E56 HS8
  generalize w8.alloc (.cells (u8s (List.replicate 32 0)).toArray 26) = w9 at *
  refine e_nil (hR.out _ _ ?_)
  clear hR R
  refine hK12 _ _ ?_
  clear hK12 K12
  refine wp_seq_k (fun K13 hK13 => ?_)
  refine wp_seq_k (fun K14 hK14 => ?_)
  refine e_region (fun R hR => ?_)
  have hw8 : ∀ j v, (u32s S.l)[j]? = some v → w9.cell? ⟨g3, 0 + j, none⟩ = some v := fun j v hv => by
    have hj : j < 8 := by have := (List.getElem?_eq_some_iff.1 hv).1; simpa [u32s_len, S8.len] using this
    rw [Nat.zero_add, H9.word j hj]
    rw [u32s_get S.l j hj] at hv
    exact hv
  refine e_op H rfl rfl (by decide) (x_fieldAddr H rfl rfl (fa74_0 _ _)) ?_
  clear H a; intro a H
  refine e_op H rfl rfl (by decide) (x_load H rfl rfl (l_part (off := 0) (cs := u32s S.l) Tryd.isAgg67 Tryd.sizeOf67 hw8)) ?_
  clear H a; intro a H
  refine e_op H rfl rfl (by decide) (x_move H rfl rfl) ?_
  clear H a; intro a H
  refine e_nil (hR.out _ _ ?_)
  clear hR R
  refine hK14 _ _ ?_
  clear hK14 K14
  refine wp_block ?_
  refine wp_loop_ghost (fun n a w => ∃ i : Nat, i ≤ 8 ∧ n = 8 - i ∧ Has a 75 [(2, .pointer (some ⟨gd, 0, none⟩)), (7, .pointer (some ⟨g7, 0, none⟩)), (42, .agg (u32s S.l).toArray), (43, .int .i64 (i : Int))] ∧ Blk w g7 26 (u8s (oP S.l i ++ List.replicate (32 - 4 * i) 0)) ∧ Blk w gd 26 (u8s (List.replicate 32 0)) ∧ Ext w0 w) (8) ?_ ?_
  · skip
    exact ⟨0, by omega, rfl, H.sub ⟨rfl, rfl, rfl, rfl, trivial⟩, Q1, D9, E9⟩
  · skip
    clear Q1 D9 E9 hw8 H9 H a
    intro n a w hI
    obtain ⟨i, hi, rfl, H, Q1, D1, E1⟩ := hI
    rcases Nat.lt_or_ge i 8 with hlt | hge
    · skip
      obtain ⟨x, hx⟩ : ∃ x, x = wat S.l i := ⟨_, rfl⟩
      refine wp_seq_k (fun K15 hK15 => ?_)
      refine e_region (fun R hR => ?_)
      refine e_op H rfl rfl (by decide) (x_binI H rfl rfl rfl (b_lss (b := true) (dec_t (by omega)))) ?_
      clear H a; intro a H
      refine e_nil (hR.out _ _ ?_)
      clear hR R
      refine hK15 _ _ ?_
      clear hK15 K15
      refine wp_seq_k (fun K16 hK16 => ?_)
      refine c_true H rfl ?_
      refine wp_skip ?_
      refine hK16 _ _ ?_
      clear hK16 K16
      refine wp_seq_k (fun K17 hK17 => ?_)
      refine wp_block ?_
      refine wp_seq_k (fun K18 hK18 => ?_)
      refine e_region (fun R hR => ?_)
      refine e_op H rfl rfl (by decide) (x_move H rfl rfl) ?_
      clear H a; intro a H
      refine e_op H rfl rfl (by decide) (x_index H rfl rfl rfl (i_val (m := i) Tryd.underlying67 Tryd.sizeOf66 Tryd.isAgg66 (rfl) (by omega) (show (u32s S.l).toArray[i]? = some (Value.int .u32 (wn x)) by rw [List.getElem?_toArray, hx]; exact u32s_get S.l i hlt))) ?_
      clear H a; intro a H
      refine e_op H rfl rfl (by decide) (x_assign H rfl rfl) ?_
      clear H a; intro a H
      refine e_op H rfl rfl (by decide) (x_assign H rfl rfl) ?_
      clear H a; intro a H
      refine e_nil (hR.out _ _ ?_)
      clear hR R
      refine hK18 _ _ ?_
      clear hK18 K18
      refine e_region (fun R hR => ?_)
      have hol := oP_len S.l i (by rw [S8.len]; omega)
      refine e_op H rfl rfl (by decide) (x_move H rfl rfl) ?_
      clear H a; intro a H
      refine e_op H rfl rfl (by decide) (x_binI H rfl rfl rfl (b_mul (z := ((4 * i : Nat) : Int)) (by rw [IntKind.wrap_i64]; omega))) ?_
      clear H a; intro a H
      refine e_op H rfl rfl (by decide) (x_move H rfl rfl) ?_
      clear H a; intro a H
      refine e_op H rfl rfl (by decide) (x_binI H rfl rfl rfl (b_mul (z := ((4 * i : Nat) : Int)) (by rw [IntKind.wrap_i64]; omega))) ?_
      clear H a; intro a H
      refine e_op H rfl rfl (by decide) (x_binI H rfl rfl rfl (b_add (z := ((4 * i + 1 : Nat) : Int)) (by rw [IntKind.wrap_i64]; omega))) ?_
      clear H a; intro a H
      refine e_op H rfl rfl (by decide) (x_move H rfl rfl) ?_
      clear H a; intro a H
      refine e_op H rfl rfl (by decide) (x_binI H rfl rfl rfl (b_mul (z := ((4 * i : Nat) : Int)) (by rw [IntKind.wrap_i64]; omega))) ?_
      clear H a; intro a H
      refine e_op H rfl rfl (by decide) (x_binI H rfl rfl rfl (b_add (z := ((4 * i + 2 : Nat) : Int)) (by rw [IntKind.wrap_i64]; omega))) ?_
      clear H a; intro a H
      refine e_op H rfl rfl (by decide) (x_move H rfl rfl) ?_
      clear H a; intro a H
      refine e_op H rfl rfl (by decide) (x_binI H rfl rfl rfl (b_mul (z := ((4 * i : Nat) : Int)) (by rw [IntKind.wrap_i64]; omega))) ?_
      clear H a; intro a H
      refine e_op H rfl rfl (by decide) (x_binI H rfl rfl rfl (b_add (z := ((4 * i + 3 : Nat) : Int)) (by rw [IntKind.wrap_i64]; omega))) ?_
      clear H a; intro a H
      refine e_op H rfl rfl (by decide) (x_move H rfl rfl) ?_
      clear H a; intro a H
      refine e_op H rfl rfl (by decide) (x_binI H rfl rfl rfl (b_shr (z := ((x.toNat / 16777216 : Nat) : Int)) (by decide) (shr_b x 24 (by omega) rfl))) ?_
      clear H a; intro a H
      refine e_op H rfl rfl (by decide) (x_conv H rfl rfl (c_int (z := ((UInt8.ofNat (x.toNat / 16777216)).toNat : Int)) Tryd.underlying66 Tryd.underlying5 (wrap_u8_nat _))) ?_
      clear H a; intro a H
      refine e_op H rfl rfl (by decide) (x_move H rfl rfl) ?_
      clear H a; intro a H
      refine e_op H rfl rfl (by decide) (x_binI H rfl rfl rfl (b_shr (z := ((x.toNat / 65536 : Nat) : Int)) (by decide) (shr_b x 16 (by omega) rfl))) ?_
      clear H a; intro a H
      refine e_op H rfl rfl (by decide) (x_conv H rfl rfl (c_int (z := ((UInt8.ofNat (x.toNat / 65536)).toNat : Int)) Tryd.underlying66 Tryd.underlying5 (wrap_u8_nat _))) ?_
      clear H a; intro a H
      refine e_op H rfl rfl (by decide) (x_move H rfl rfl) ?_
      clear H a; intro a H
      refine e_op H rfl rfl (by decide) (x_binI H rfl rfl rfl (b_shr (z := ((x.toNat / 256 : Nat) : Int)) (by decide) (shr_b x 8 (by omega) rfl))) ?_
      clear H a; intro a H
      refine e_op H rfl rfl (by decide) (x_conv H rfl rfl (c_int (z := ((UInt8.ofNat (x.toNat / 256)).toNat : Int)) Tryd.underlying66 Tryd.underlying5 (wrap_u8_nat _))) ?_
      clear H a; intro a H
      refine e_op H rfl rfl (by decide) (x_move H rfl rfl) ?_
      clear H a; intro a H
      refine e_op H rfl rfl (by decide) (x_conv H rfl rfl (c_int (z := ((UInt8.ofNat x.toNat).toNat : Int)) Tryd.underlying66 Tryd.underlying5 (wrap_u8_nat _))) ?_
      clear H a; intro a H
      refine e_op H rfl rfl (by decide) (x_indexAddr H rfl rfl rfl (i_arr0 (m := 4 * i) Tryd.underlying26 Tryd.sizeOf5 rfl (by omega))) ?_
      clear H a; intro a H
      refine e_st H rfl rfl (x_store H rfl rfl rfl (st_cell rfl rfl Tryd.sizeOf5 (Q1.frozen (4 * i)) (Q1.isSome (4 * i) (by simp [u8s_len, hol]; omega)))) ?_
      have Q2 := Q1.setU8 (4 * i) (UInt8.ofNat (x.toNat / 16777216))
      have E2 := E1.st (g := g7) (by omega) (4 * i) (.int .u8 ((UInt8.ofNat (x.toNat / 16777216)).toNat : Int))
      have D2 := D1.far (b := g7) (o := 4 * i) (by omega) (.int .u8 ((UInt8.ofNat (x.toNat / 16777216)).toNat : Int))
      refine e_op H rfl rfl (by decide) (x_indexAddr H rfl rfl rfl (i_arr0 (m := 4 * i + 1) Tryd.underlying26 Tryd.sizeOf5 rfl (by omega))) ?_
      clear H a; intro a H
      refine e_st H rfl rfl (x_store H rfl rfl rfl (st_cell rfl rfl Tryd.sizeOf5 (Q2.frozen (4 * i + 1)) (Q2.isSome (4 * i + 1) (by simp [u8s_len, hol]; omega)))) ?_
      have Q3 := Q2.setU8 (4 * i + 1) (UInt8.ofNat (x.toNat / 65536))
      have E3 := E2.st (g := g7) (by omega) (4 * i + 1) (.int .u8 ((UInt8.ofNat (x.toNat / 65536)).toNat : Int))
      have D3 := D2.far (b := g7) (o := 4 * i + 1) (by omega) (.int .u8 ((UInt8.ofNat (x.toNat / 65536)).toNat : Int))
      refine e_op H rfl rfl (by decide) (x_indexAddr H rfl rfl rfl (i_arr0 (m := 4 * i + 2) Tryd.underlying26 Tryd.sizeOf5 rfl (by omega))) ?_
      clear H a; intro a H
      refine e_st H rfl rfl (x_store H rfl rfl rfl (st_cell rfl rfl Tryd.sizeOf5 (Q3.frozen (4 * i + 2)) (Q3.isSome (4 * i + 2) (by simp [u8s_len, hol]; omega)))) ?_
      have Q4 := Q3.setU8 (4 * i + 2) (UInt8.ofNat (x.toNat / 256))
      have E4 := E3.st (g := g7) (by omega) (4 * i + 2) (.int .u8 ((UInt8.ofNat (x.toNat / 256)).toNat : Int))
      have D4 := D3.far (b := g7) (o := 4 * i + 2) (by omega) (.int .u8 ((UInt8.ofNat (x.toNat / 256)).toNat : Int))
      refine e_op H rfl rfl (by decide) (x_indexAddr H rfl rfl rfl (i_arr0 (m := 4 * i + 3) Tryd.underlying26 Tryd.sizeOf5 rfl (by omega))) ?_
      clear H a; intro a H
      refine e_st H rfl rfl (x_store H rfl rfl rfl (st_cell rfl rfl Tryd.sizeOf5 (Q4.frozen (4 * i + 3)) (Q4.isSome (4 * i + 3) (by simp [u8s_len, hol]; omega)))) ?_
      have Q5 := Q4.setU8 (4 * i + 3) (UInt8.ofNat x.toNat)
      have E5 := E4.st (g := g7) (by omega) (4 * i + 3) (.int .u8 ((UInt8.ofNat x.toNat).toNat : Int))
      have D5 := D4.far (b := g7) (o := 4 * i + 3) (by omega) (.int .u8 ((UInt8.ofNat x.toNat).toNat : Int))
      refine e_nil (hR.out _ _ ?_)
      clear hR R
      rw [show 32 - 4 * i = (28 - 4 * i) + 4 by omega, fill_u8_4 _ _ _ _ _ _ _ hol, show oP S.l i ++ [UInt8.ofNat (x.toNat / 16777216), UInt8.ofNat (x.toNat / 65536), UInt8.ofNat (x.toNat / 256), UInt8.ofNat x.toNat] = oP S.l (i + 1) by rw [oP_succ S.l i (by rw [S8.len]; exact hlt), ← hx]; rfl, show 28 - 4 * i = 32 - 4 * (i + 1) by omega] at Q5
      refine hK17 _ _ ?_
      clear hK17 K17
      refine e_region (fun R hR => ?_)
      refine e_op H rfl rfl (by decide) (x_binI H rfl rfl rfl (b_add (z := ((i + 1 : Nat) : Int)) (by rw [IntKind.wrap_i64]; omega))) ?_
      clear H a; intro a H
      refine e_op H rfl rfl (by decide) (x_move H rfl rfl) ?_
      clear H a; intro a H
      refine e_nil (hR.out _ _ ?_)
      clear hR R
      exact ⟨8 - (i + 1), by omega, i + 1, by omega, rfl, H.sub ⟨rfl, rfl, rfl, rfl, trivial⟩, Q5, D5, E5⟩
    · skip
      obtain rfl : i = 8 := by omega
      refine wp_seq_k (fun K19 hK19 => ?_)
      refine e_region (fun R hR => ?_)
      refine e_op H rfl rfl (by decide) (x_binI H rfl rfl rfl (b_lss (b := false) (dec_f (by omega)))) ?_
      clear H a; intro a H
      refine e_nil (hR.out _ _ ?_)
      clear hR R
      refine hK19 _ _ ?_
      clear hK19 K19
      refine wp_seq_k (fun K20 hK20 => ?_)
      refine c_false H rfl ?_
      refine wp_exit ?_
      refine t_exit ?_
      refine t_exit ?_
      refine b_hit ?_
      clear hK20 K20
      refine hK13 _ _ ?_
      clear hK13 K13
      refine wp_seq_k (fun K21 hK21 => ?_)
      refine e_region (fun R hR => ?_)
      have Q1 : Blk w g7 26 (u8s (out8 S)) := by simpa [oP_all] using Q1
      refine e_op H rfl rfl (by decide) (x_load H rfl rfl (l_row Q1 Tryd.underlying26 rfl (by kernel_rfl))) ?_
      clear H a; intro a H
      refine e_st H rfl rfl (x_store H rfl rfl rfl (st_row D1 (by kernel_rfl) rfl (by kernel_rfl))) ?_
      refine e_nil (hR.out _ _ ?_)
      clear hR R
      refine hK21 _ _ ?_
      clear hK21 K21
      refine wp_ret ?_
      have hsha : out8 S = sha l := by rw [hS]; rfl
      refine retc H rfl rfl (setRow_heap _ _ _ _ 26 (0, 0) D1) Tryd.underlying26 rfl (by kernel_rfl) ⟨by rw [← hsha], E1.row_ (by omega) _⟩
theorem sum_any (g : Nat) (l : List UInt8) (w0 : World) (h : HashIs w0 g l) (K0 : Kc w0) (h0 : 0 < w0.heap.size) (hb : l.length < 2305843009213693952) :
    Calls Tryd.prog 21 #[.pointer (some ⟨g, 0, none⟩)] w0 fun e w' => e = .returned (.agg (u8s (sha l)).toArray) ∧ Ext w0 w' := by
  by_cases hlt : l.length % 64 < 56
  · exact sum_lt g l w0 h K0 h0 hb hlt
  · exact sum_ge g l w0 h K0 h0 hb hlt
end Go.Proofs.YtknllmcpogoeoaaDoor
