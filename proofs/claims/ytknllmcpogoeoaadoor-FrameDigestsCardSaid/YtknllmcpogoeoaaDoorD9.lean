/- digest.Sum, Text, the statements' examples and short, walked. -/
import Derived.Test.YtknllmcpogoeoaaDoorHs5
namespace Go.Proofs.YtknllmcpogoeoaaDoor
open Go.RowKit
set_option linter.unusedVariables false
set_option linter.unusedSimpArgs false
set_option maxRecDepth 100000
theorem size_d (d : List UInt8) (hd : d.length = 32) : (u8s d).toArray.size = 32 := by simp [u8s_len, hd]
theorem size_sha (p : List UInt8) : (u8s (sha p)).toArray.size = 32 := size_d _ (sha_len p)
theorem one_u8 (d : List UInt8) : (u8s d).toArray.all (·.oneCell') = true := by
  rw [Array.all_eq_true_iff_forall_mem]; intro v hv; exact u8s_one _ v (by simpa using hv)
theorem Ow.lt' {w : World} {B : Nat} {a : Option Addr} {n c : Nat} {l : List UInt8} (h : Ow w B a n c l) (hn : 0 < n) : B < w.heap.size := by
  obtain ⟨g, _, h1, h2, _⟩ := Ow.form0 h hn
  omega
theorem bs3 (i j k : Int) (w : World) : (Instr.buildSlice 22 3 #[(0, .int .u8 i), (1, .int .u8 j), (2, .int .u8 k)]).run Tryd.prog w = .ok (.slice (some ⟨w.heap.size, 0, none⟩) 3 3) (w.alloc (.cells #[.int .u8 i, .int .u8 j, .int .u8 k] 5)) := by kernel_rfl
theorem dsum_any (ad : Option Addr) (m c : Nat) (p : List UInt8) (w0 : World) (hp : Bs w0 ad m p) (hc : m ≤ c) (hn : ad = none → c = 0) (K0 : Kc w0) (h0 : 0 < w0.heap.size) (hm : m ≤ 1152921504606846976) :
    Calls Tryd.prog 16 #[.slice ad m c] w0 fun e w' => e = .returned (.agg (u8s (sha p)).toArray) ∧ Ext w0 w' := by
  refine calls_has (args := [.slice ad m c]) Tryd.func16 rfl Tryd.ntmps16 (Nat.le_of_ble_eq_true rfl) (fun a H => ?_)
  simp only [argl, Nat.reduceAdd] at H
  refine wp_seq_k (fun K1 hK1 => ?_)
  refine e_region (fun R hR => ?_)
  refine e_op H rfl rfl (by decide) (x_alloc H rfl (al_new (z26 _))) ?_
  clear H a; intro a H
  have D1 := Blk.new w0 26 (u8s (List.replicate 32 0))
  have E1 := (Ext.refl w0).al (.cells (u8s (List.replicate 32 0)).toArray 26)
  obtain ⟨gd, hgd⟩ : ∃ gd, gd = w0.heap.size := ⟨_, rfl⟩
  rw [← hgd] at H D1
  have hs1 := E1.sz
  generalize w0.alloc (.cells (u8s (List.replicate 32 0)).toArray 26) = w1 at *
  refine e_nil (hR.out _ _ ?_)
  clear hR R
  refine hK1 _ _ ?_
  clear hK1 K1
  refine wp_seq_k (fun K2 hK2 => ?_)
  refine e_region (fun R hR => ?_)
  refine e_callq H rfl rfl (by decide) rfl rfl (Tryd.call18 _) (new_any w1) ?_
  clear H a
  rintro e w2 ⟨g, rfl, HI, hg, E2⟩
  refine ⟨_, rfl, fun a H => ?_⟩
  have D2 := D1.ext E2
  have E3 := E1.tr E2
  have hdg : gd < g := by have := D1.lt; omega
  have hs2 := E2.sz
  refine e_op H rfl rfl (by decide) (x_assign H rfl rfl) ?_
  clear H a; intro a H
  refine e_nil (hR.out _ _ ?_)
  clear hR R
  refine hK2 _ _ ?_
  clear hK2 K2
  refine wp_seq_k (fun K3 hK3 => ?_)
  refine e_region (fun R hR => ?_)
  refine e_op H rfl rfl (by decide) (x_move H rfl rfl) ?_
  clear H a; intro a H
  refine e_op H rfl rfl (by decide) (x_move H rfl rfl) ?_
  clear H a; intro a H
  refine e_callq H rfl rfl (by decide) rfl rfl (Tryd.call19 _) (write_any g [] p ad m c w2 HI ⟨E3.bs hp, hc, hn, fun b o e h0 => by obtain ⟨b2, o2, e2, h2⟩ := hp.cell 0 h0; rw [e] at e2; simp only [Option.some.injEq, Addr.mk.injEq] at e2; have := World.block_lt_of_cell? w0 _ h2; simp only at this; omega⟩ (K0.ext E3) (by omega) (by simp; omega)) ?_
  clear H a
  rintro e w3 ⟨rfl, HI3, F3⟩
  refine ⟨_, rfl, fun a H => ?_⟩
  rw [List.nil_append] at HI3
  have D3 := D2.frm F3 (by simp; omega)
  have E4 := F3.ext E3 (fun x hx => by simp only [List.mem_singleton] at hx; omega)
  have hs4 := E4.sz
  have hpl := hp.leng
  refine e_nil (hR.out _ _ ?_)
  clear hR R
  refine hK3 _ _ ?_
  clear hK3 K3
  refine wp_seq_k (fun K4 hK4 => ?_)
  refine e_region (fun R hR => ?_)
  refine e_op H rfl rfl (by decide) (x_move H rfl rfl) ?_
  clear H a; intro a H
  refine e_callq H rfl rfl (by decide) rfl rfl (Tryd.call21 _) (sum_any g p w3 HI3 (K0.ext E4) (by omega) (by omega)) ?_
  clear H a
  rintro e w4 ⟨rfl, E5⟩
  refine ⟨_, rfl, fun a H => ?_⟩
  have D4 := D3.ext E5
  have E6 := E4.tr E5
  refine e_st H rfl rfl (x_store H rfl rfl rfl (st_row D4 (by rw [size_sha]; kernel_rfl) (by rw [size_sha]; rfl) (one_u8 _))) ?_
  refine e_nil (hR.out _ _ ?_)
  clear hR R
  refine hK4 _ _ ?_
  clear hK4 K4
  refine wp_ret ?_
  exact retc H rfl rfl (setRow_heap _ _ _ _ 26 (0, 0) D4) Tryd.underlying26 rfl (by rw [size_sha]; kernel_rfl) ⟨rfl, E6.row_ (by omega) _⟩
theorem text_any (d : List UInt8) (hd : d.length = 32) (w0 : World) :
    Calls Tryd.prog 30 #[.agg (u8s d).toArray] w0 fun e w' => e = .returned (.string ⟨(hex d).toArray⟩) ∧ Ext w0 w' := by
  refine calls_has (args := [.agg (u8s d).toArray]) Tryd.func30 rfl Tryd.ntmps30 (Nat.le_of_ble_eq_true rfl) (fun a H => ?_)
  simp only [argl, Nat.reduceAdd] at H
  refine wp_seq_k (fun K1 hK1 => ?_)
  refine e_region (fun R hR => ?_)
  refine e_op H rfl rfl (by decide) (x_box H rfl rfl bx_new) ?_
  clear H a; intro a H
  have T1 := Blk.new w0 26 (u8s d)
  have E1 := (Ext.refl w0).al (.cells (u8s d).toArray 26)
  obtain ⟨gt, hgt⟩ : ∃ gt, gt = w0.heap.size := ⟨_, rfl⟩
  rw [← hgt] at H T1
  have hs1 := E1.sz
  generalize w0.alloc (.cells (u8s d).toArray 26) = w1 at *
  refine e_op H rfl rfl (by decide) (x_assign H rfl rfl) ?_
  clear H a; intro a H
  refine e_nil (hR.out _ _ ?_)
  clear hR R
  refine hK1 _ _ ?_
  clear hK1 K1
  refine wp_seq_k (fun K2 hK2 => ?_)
  refine e_region (fun R hR => ?_)
  refine e_op H rfl rfl (by decide) (x_makeSlice H rfl rfl rfl (mk_u8 (n := 0) (c := 64) rfl rfl (by omega) (by omega))) ?_
  clear H a; intro a H
  have E2 := E1.al (.cells (u8s (List.replicate 64 0)).toArray 5)
  have T2 := T1.alloc (.cells (u8s (List.replicate 64 0)).toArray 5)
  have O2 : Ow (w1.alloc (.cells (u8s (List.replicate 64 0)).toArray 5)) w1.heap.size (some ⟨w1.heap.size, 0, none⟩) 0 64 [] :=
    Ow.mk rfl (Nat.le_refl _) (heap_alloc_new w1 _) (by omega) (by unfold maxLen; omega) (by simp [u8s_len]) rfl
  have ht1 := T1.lt
  generalize hB : w1.heap.size = B at *
  generalize w1.alloc (.cells (u8s (List.replicate 64 0)).toArray 5) = w2 at *
  refine e_op H rfl rfl (by decide) (x_assign H rfl rfl) ?_
  clear H a; intro a H
  refine e_nil (hR.out _ _ ?_)
  clear hR R
  refine hK2 _ _ ?_
  clear hK2 K2
  refine wp_seq_k (fun K3 hK3 => ?_)
  refine wp_seq_k (fun K4 hK4 => ?_)
  refine e_region (fun R hR => ?_)
  refine e_op H rfl rfl (by decide) (x_load H rfl rfl (l_row T2 Tryd.underlying26 rfl (by rw [size_d d hd]; kernel_rfl))) ?_
  clear H a; intro a H
  refine e_op H rfl rfl (by decide) (x_move H rfl rfl) ?_
  clear H a; intro a H
  refine e_nil (hR.out _ _ ?_)
  clear hR R
  refine hK4 _ _ ?_
  clear hK4 K4
  refine wp_block ?_
  refine wp_loop_ghost (fun n a w => ∃ (i : Nat) (a3 : Option Addr) (c3 : Nat), i ≤ 32 ∧ n = 32 - i ∧ Has a 23 [(3, .slice a3 (2 * i) c3), (7, .agg (u8s d).toArray), (8, .int .i64 (i : Int))] ∧ Ow w B a3 (2 * i) c3 (hex (d.take i)) ∧ B ≤ w.heap.size ∧ Ext w0 w) (32) ?_ ?_
  · skip
    exact ⟨0, some ⟨B, 0, none⟩, 64, by omega, rfl, H.sub ⟨rfl, rfl, rfl, trivial⟩, O2, by have := (O2.lt rfl).2; omega, E2⟩
  · skip
    clear H a O2 E2 T2
    intro n a w hI
    clear w2
    obtain ⟨i, a3, c3, hi, rfl, H, O, hBw, E⟩ := hI
    rcases Nat.lt_or_ge i 32 with hlt | hge
    · skip
      obtain ⟨x, hx⟩ : ∃ x, x = d[i]?.getD 0 := ⟨_, rfl⟩
      have hx8 := x.toNat_lt
      have hdt : d.take (i + 1) = d.take i ++ [x] := by rw [List.take_succ_eq_append_getElem (by omega), hx]; simp [hd, hlt]
      refine wp_seq_k (fun K5 hK5 => ?_)
      refine e_region (fun R hR => ?_)
      refine e_op H rfl rfl (by decide) (x_binI H rfl rfl rfl (b_lss (b := true) (dec_t (by omega)))) ?_
      clear H a; intro a H
      refine e_nil (hR.out _ _ ?_)
      clear hR R
      refine hK5 _ _ ?_
      clear hK5 K5
      refine wp_seq_k (fun K6 hK6 => ?_)
      refine c_true H rfl ?_
      refine wp_skip ?_
      refine hK6 _ _ ?_
      clear hK6 K6
      refine wp_seq_k (fun K7 hK7 => ?_)
      refine wp_block ?_
      refine wp_seq_k (fun K8 hK8 => ?_)
      refine e_region (fun R hR => ?_)
      refine e_op H rfl rfl (by decide) (x_index H rfl rfl rfl (i_val (m := i) Tryd.underlying26 Tryd.sizeOf5 Tryd.isAgg5 (rfl) (by omega) (show (u8s d).toArray[i]? = some (Value.int .u8 (x.toNat : Int)) by rw [List.getElem?_toArray, hx]; exact u8s_get d i (by omega)))) ?_
      clear H a; intro a H
      refine e_op H rfl rfl (by decide) (x_assign H rfl rfl) ?_
      clear H a; intro a H
      refine e_nil (hR.out _ _ ?_)
      clear hR R
      refine hK8 _ _ ?_
      clear hK8 K8
      refine t_start (by kernel_rfl) (fun R hR => ?_)
      refine t_take 0 H rfl rfl rfl (by decide) (by kernel_rfl) (by kernel_rfl) (by kernel_rfl) (fun w' => (x_move H rfl rfl)) ?_
      clear H a; intro a H
      refine t_take 1 H rfl rfl rfl (by decide) (by kernel_rfl) (by kernel_rfl) (by kernel_rfl) (fun w' => (x_move H rfl rfl)) ?_
      clear H a; intro a H
      refine t_take 2 H rfl rfl rfl (by decide) (by kernel_rfl) (by kernel_rfl) (by kernel_rfl) (fun w' => (x_binI H rfl rfl rfl (b_shr (z := ((x.toNat / 16 : Nat) : Int)) (by decide) (by rw [min_b8 (i := (4 : Int)) 4 rfl (by omega)]; omega)))) ?_
      clear H a; intro a H
      refine t_take 3 H rfl rfl rfl (by decide) (by kernel_rfl) (by kernel_rfl) (by kernel_rfl) (fun w' => (x_index (vx := .string HX) H rfl (by kernel_rfl) rfl (idx_hx (m := x.toNat / 16) rfl (by omega)))) ?_
      clear H a; intro a H
      refine t_take 4 H rfl rfl rfl (by decide) (by kernel_rfl) (by kernel_rfl) (by kernel_rfl) (fun w' => (x_move H rfl rfl)) ?_
      clear H a; intro a H
      refine t_take 5 H rfl rfl rfl (by decide) (by kernel_rfl) (by kernel_rfl) (by kernel_rfl) (fun w' => (x_binI H rfl rfl rfl (b_and (z := ((x.toNat % 16 : Nat) : Int)) (and15 ⟨x.toNat, hx8⟩)))) ?_
      clear H a; intro a H
      refine t_take 6 H rfl rfl rfl (by decide) (by kernel_rfl) (by kernel_rfl) (by kernel_rfl) (fun w' => (x_index (vx := .string HX) H rfl (by kernel_rfl) rfl (idx_hx (m := x.toNat % 16) rfl (by omega)))) ?_
      clear H a; intro a H
      refine t_one 7 H rfl (by kernel_rfl) (wanted_none rfl) rfl (by decide) (x_buildSlice H rfl rfl (bs2 _ _ _)) ?_
      clear H a; intro a H
      have OD : Ow w.drew B a3 (2 * i) c3 (hex (d.take i)) := O
      have ED := E.dr
      obtain ⟨wd, hwd⟩ : ∃ wd, wd = w.drew := ⟨_, rfl⟩
      rw [← hwd] at OD ED H ⊢
      have hBd : B ≤ wd.heap.size := by rw [hwd]; exact hBw
      obtain ⟨a4, c4, w4, hr4, O4, G4⟩ := run_app (wd.alloc (.cells #[.int .u8 ((hexd (x.toNat / 16)).toNat : Int), .int .u8 ((hexd (x.toNat % 16)).toNat : Int)] 5)) 22 B a3 (2 * i) c3 _ (some ⟨wd.heap.size, 0, none⟩) 2 2 [hexd (x.toNat / 16), hexd (x.toNat % 16)] (row_al OD _) (Bs.new wd _ 2 _ rfl (u8s_two _ _)) (by omega) (by simp; omega) (fun h => by cases h)
      have E4 := (ED.al (.cells #[.int .u8 ((hexd (x.toNat / 16)).toNat : Int), .int .u8 ((hexd (x.toNat % 16)).toNat : Int)] 5)).app (row_al OD _) (by omega) G4
      refine t_one 8 H rfl (by kernel_rfl) (wanted_none rfl) rfl (by decide) (x_builtin H rfl rfl (fun cs => bi_app hr4)) ?_
      clear H a; intro a H
      refine t_take 9 H rfl rfl rfl (by decide) (by kernel_rfl) (by kernel_rfl) (by kernel_rfl) (fun w' => (x_assign H rfl rfl)) ?_
      clear H a; intro a H
      refine t_done (by kernel_rfl) (hR.out _ _ ?_)
      clear hR R
      rw [show 2 * i + 2 = 2 * (i + 1) by omega] at O4 H
      refine hK7 _ _ ?_
      clear hK7 K7
      refine e_region (fun R hR => ?_)
      refine e_op H rfl rfl (by decide) (x_binI H rfl rfl rfl (b_add (z := ((i + 1 : Nat) : Int)) (by rw [IntKind.wrap_i64]; omega))) ?_
      clear H a; intro a H
      refine e_op H rfl rfl (by decide) (x_move H rfl rfl) ?_
      clear H a; intro a H
      refine e_nil (hR.out _ _ ?_)
      clear hR R
      refine ⟨32 - (i + 1), by omega, i + 1, a4, c4, by omega, rfl, H.sub ⟨rfl, rfl, rfl, trivial⟩, ?_, by have := (O4.lt' (by omega)); omega, E4⟩
      rw [hdt, hex_app]
      exact O4
    · skip
      obtain rfl : i = 32 := by omega
      rw [List.take_of_length_le (by omega)] at O
      refine wp_seq_k (fun K9 hK9 => ?_)
      refine e_region (fun R hR => ?_)
      refine e_op H rfl rfl (by decide) (x_binI H rfl rfl rfl (b_lss (b := false) (dec_f (by omega)))) ?_
      clear H a; intro a H
      refine e_nil (hR.out _ _ ?_)
      clear hR R
      refine hK9 _ _ ?_
      clear hK9 K9
      refine wp_seq_k (fun K10 hK10 => ?_)
      refine c_false H rfl ?_
      refine wp_exit ?_
      refine t_exit ?_
      refine t_exit ?_
      refine b_hit ?_
      clear hK10 K10
      refine hK3 _ _ ?_
      clear hK3 K3
      refine wp_seq_k (fun K11 hK11 => ?_)
      refine e_region (fun R hR => ?_)
      refine e_op H rfl rfl (by decide) (x_move H rfl rfl) ?_
      clear H a; intro a H
      refine e_op H rfl rfl (by decide) (x_conv H rfl rfl (conv_bs O.bs)) ?_
      clear H a; intro a H
      refine e_op H rfl rfl (by decide) (x_assign H rfl rfl) ?_
      clear H a; intro a H
      refine e_nil (hR.out _ _ ?_)
      clear hR R
      refine hK11 _ _ ?_
      clear hK11 K11
      refine wp_ret ?_
      exact ret1 H rfl rfl ⟨rfl, E⟩
theorem short_any (ad : Option Addr) (m c : Nat) (w0 : World) (hc : m ≤ c) :
    Calls Tryd.prog 15 #[.slice ad m c] w0 fun e w' => e = .returned (.slice ad (min m 300) c) ∧ w' = w0 := by
  refine calls_has (args := [.slice ad m c]) Tryd.func15 rfl Tryd.ntmps15 (Nat.le_of_ble_eq_true rfl) (fun a H => ?_)
  simp only [argl, Nat.reduceAdd] at H
  refine wp_seq_k (fun K1 hK1 => ?_)
  refine e_region (fun R hR => ?_)
  refine e_op H rfl rfl (by decide) (x_assign H rfl rfl) ?_
  clear H a; intro a H
  refine e_nil (hR.out _ _ ?_)
  clear hR R
  refine hK1 _ _ ?_
  clear hK1 K1
  refine wp_seq_k (fun K2 hK2 => ?_)
  refine e_region (fun R hR => ?_)
  refine e_op H rfl rfl (by decide) (x_move H rfl rfl) ?_
  clear H a; intro a H
  refine e_op H rfl rfl (by decide) (x_move H rfl rfl) ?_
  clear H a; intro a H
  refine e_op H rfl rfl (by decide) (x_builtin H rfl rfl (fun cs => len_sl Tryd.underlying22)) ?_
  clear H a; intro a H
  refine e_op H rfl rfl (by decide) (x_builtin H rfl rfl (fun cs => bi_min (z := ((min m 300 : Nat) : Int)) (by split <;> omega))) ?_
  clear H a; intro a H
  refine e_op H rfl rfl (by decide) (x_slice H rfl rfl rfl rfl (sl_hi (hi := min m 300) Tryd.underlying22 Tryd.sizeOf5 rfl (by omega))) ?_
  clear H a; intro a H
  refine e_op H rfl rfl (by decide) (x_assign H rfl rfl) ?_
  clear H a; intro a H
  refine e_nil (hR.out _ _ ?_)
  clear hR R
  refine hK2 _ _ ?_
  clear hK2 K2
  refine wp_ret ?_
  exact ret1 H rfl rfl ⟨rfl, rfl⟩
theorem awake_any (w0 : World) (K0 : Kc w0) (h0 : 0 < w0.heap.size) : Calls Tryd.prog 14 #[] w0 fun e w' => e = .returned (.bool true) ∧ Ext w0 w' := by
  refine calls_has (args := []) Tryd.func14 rfl Tryd.ntmps14 (Nat.le_of_ble_eq_true rfl) (fun a H => ?_)
  simp only [argl, Nat.reduceAdd] at H
  refine wp_seq_k (fun K1 hK1 => ?_)
  refine e_region (fun R hR => ?_)
  refine e_op H rfl rfl (by decide) (x_assign H rfl rfl) ?_
  clear H a; intro a H
  refine e_nil (hR.out _ _ ?_)
  clear hR R
  refine hK1 _ _ ?_
  clear hK1 K1
  refine wp_seq_k (fun K2 hK2 => ?_)
  refine e_region (fun R hR => ?_)
  refine e_callq H rfl rfl (by decide) rfl rfl (Tryd.call16 _) (dsum_any none 0 0 [] w0 (Bs.nil _ _) (by omega) (fun _ => rfl) K0 h0 (by omega)) ?_
  clear H a
  rintro e w1 ⟨rfl, E1⟩
  refine ⟨_, rfl, fun a H => ?_⟩
  refine e_callq H rfl rfl (by decide) rfl rfl (Tryd.call30 _) (text_any (sha []) (sha_len _) w1) ?_
  clear H a
  rintro e w2 ⟨rfl, E2⟩
  refine ⟨_, rfl, fun a H => ?_⟩
  have E3 := E1.tr E2
  rw [sha_nil] at H
  refine e_op H rfl rfl (by decide) (x_bin H rfl rfl rfl eqg9 (eql9 rfl)) ?_
  clear H a; intro a H
  refine e_op H rfl rfl (by decide) (x_move H rfl rfl) ?_
  clear H a; intro a H
  refine e_opg H (wanted_true H rfl rfl rfl rfl) rfl (by decide) (x_buildSlice H rfl rfl (bs3 _ _ _ _)) ?_
  clear H a; intro a H
  refine e_opg H (wanted_true H rfl rfl rfl rfl) rfl (by decide) (x_conv H rfl rfl (Lib.run_convert_bytes_const (P := Tryd.prog) w2 22 5 _ _ _ Tryd.underlying22 Tryd.underlying5)) ?_
  clear H a; intro a H
  have B4 := Bs.mark w2 w2.heap.size rfl #[.int .u8 97, .int .u8 98, .int .u8 99] (3, 4) 3 [97, 98, 99] rfl rfl
  have E4 := E3.al (.cells #[.int .u8 97, .int .u8 98, .int .u8 99] 5 (3, 4))
  have hs4 := E4.sz
  refine e_callqg H (wanted_true H rfl rfl rfl rfl) rfl (by decide) rfl rfl (Tryd.call16 _) (dsum_any (some ⟨w2.heap.size, 0, none⟩) 3 3 [97, 98, 99] (w2.alloc (.cells #[.int .u8 97, .int .u8 98, .int .u8 99] 5 (3, 4))) B4 (by omega) (fun h => by cases h) (K0.ext E4) (Nat.lt_of_lt_of_le h0 hs4) (by omega)) ?_
  clear H a
  rintro e w5 ⟨rfl, E5⟩
  refine ⟨_, rfl, fun a H => ?_⟩
  refine e_callqg H (wanted_true H rfl rfl rfl rfl) rfl (by decide) rfl rfl (Tryd.call30 _) (text_any (sha [97, 98, 99]) (sha_len _) w5) ?_
  clear H a
  rintro e w6 ⟨rfl, E6⟩
  refine ⟨_, rfl, fun a H => ?_⟩
  have E7 := (E4.tr E5).tr E6
  rw [sha_abc] at H
  refine e_opg H (wanted_true H rfl rfl rfl rfl) rfl (by decide) (x_bin H rfl rfl rfl eqg9 (eql9 rfl)) ?_
  clear H a; intro a H
  refine e_op H rfl rfl (by decide) (x_pickT H rfl rfl rfl) ?_
  clear H a; intro a H
  refine e_op H rfl rfl (by decide) (x_assign H rfl rfl) ?_
  clear H a; intro a H
  refine e_nil (hR.out _ _ ?_)
  clear hR R
  refine hK2 _ _ ?_
  clear hK2 K2
  refine wp_ret ?_
  exact ret1 H rfl rfl ⟨rfl, E7⟩
end Go.Proofs.YtknllmcpogoeoaaDoor
