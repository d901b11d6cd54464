/- DigestNil, DigestCopies, DigestKeeps, walked. -/
import Derived.Test.YtknllmcpogoeoaaDoorL1
namespace Go.Proofs.YtknllmcpogoeoaaDoor
open Go.RowKit
set_option linter.unusedVariables false
set_option linter.unusedSimpArgs false
set_option maxRecDepth 100000
theorem Sv.old {W w : World} {ad : Option Addr} {n c g : Nat} {p : List UInt8} (h : Bs W ad n p) (E : Ext W w) (hc : n ≤ c) (hn : ad = none → c = 0) (hg : W.heap.size ≤ g) : Sv w ad n c p g :=
  ⟨E.bs h, hc, hn, fun b o e h0 => by
    obtain ⟨b2, o2, e2, h2⟩ := h.cell 0 h0
    rw [e] at e2
    simp only [Option.some.injEq, Addr.mk.injEq] at e2
    have := World.block_lt_of_cell? W _ h2
    simp only at this
    omega⟩
theorem write_nil (ad : Option Addr) (m c : Nat) (w0 : World) : Calls Tryd.prog 19 #[.pointer none, .slice ad m c] w0 fun e w' => e = .returned (.tuple #[]) ∧ w' = w0 := by
  refine calls_has (args := [.pointer none, .slice ad m c]) Tryd.func19 rfl Tryd.ntmps19 (Nat.le_of_ble_eq_true rfl) (fun a H => ?_)
  simp only [argl, Nat.reduceAdd] at H
  refine wp_seq_k (fun K1 hK1 => ?_)
  refine wp_seq_k (fun K2 hK2 => ?_)
  refine e_region (fun R hR => ?_)
  refine e_op H rfl rfl (by decide) (x_move H rfl rfl) ?_
  clear H a; intro a H
  refine e_op H rfl rfl (by decide) (x_bin H rfl rfl rfl (by rw [eqGuard_at_pointer]; rfl) (b_pnil (c := true) Tryd.underlying30 rfl)) ?_
  clear H a; intro a H
  refine e_nil (hR.out _ _ ?_)
  clear hR R
  refine hK2 _ _ ?_
  clear hK2 K2
  refine c_true H rfl ?_
  refine wp_ret ?_
  refine t_ret ?_
  exact ret0 H rfl ⟨rfl, rfl⟩
theorem digestNil_any (ad : Option Addr) (m c : Nat) (W : World) (K0 : Kc W) (h0 : 0 < W.heap.size) :
    Calls Tryd.prog 8 #[.slice ad m c] W fun e w' => e = .returned (.bool true) ∧ Ext W w' := by
  refine calls_has (args := [.slice ad m c]) Tryd.func8 rfl Tryd.ntmps8 (Nat.le_of_ble_eq_true rfl) (fun a H => ?_)
  simp only [argl, Nat.reduceAdd] at H
  refine wp_seq_k (fun K1 hK1 => ?_)
  refine e_region (fun R hR => ?_)
  refine e_op H rfl rfl (by decide) (x_assign H rfl rfl) ?_
  clear H a; intro a H
  refine e_nil (hR.out _ _ ?_)
  clear hR R
  refine hK1 _ _ ?_
  clear hK1 K1
  refine wp_seq_k (fun K2 hK2 => ?_)
  refine wp_seq_k (fun K3 hK3 => ?_)
  refine e_region (fun R hR => ?_)
  refine e_callq H rfl rfl (by decide) rfl rfl (Tryd.call14 _) (awake_any W K0 h0) ?_
  clear H a
  rintro e w1 ⟨rfl, E1⟩
  refine ⟨_, rfl, fun a H => ?_⟩
  have hs1 := E1.sz
  refine e_op H rfl rfl (by decide) (x_un H rfl rfl (u_not (c := false) (rfl))) ?_
  clear H a; intro a H
  refine e_nil (hR.out _ _ ?_)
  clear hR R
  refine hK3 _ _ ?_
  clear hK3 K3
  refine c_false H rfl ?_
  refine wp_skip ?_
  refine hK2 _ _ ?_
  clear hK2 K2
  refine wp_seq_k (fun K4 hK4 => ?_)
  refine e_region (fun R hR => ?_)
  refine e_op H rfl rfl (by decide) (x_assign H rfl rfl) ?_
  clear H a; intro a H
  refine e_nil (hR.out _ _ ?_)
  clear hR R
  refine hK4 _ _ ?_
  clear hK4 K4
  refine wp_seq_k (fun K5 hK5 => ?_)
  refine e_region (fun R hR => ?_)
  refine e_op H rfl rfl (by decide) (x_move H rfl rfl) ?_
  clear H a; intro a H
  refine e_op H rfl rfl (by decide) (x_move H rfl rfl) ?_
  clear H a; intro a H
  refine e_callp H rfl rfl (by decide) rfl rfl (Tryd.call19 _) (write_nil _ _ _ _) ?_
  clear H a; intro a H
  refine e_nil (hR.out _ _ ?_)
  clear hR R
  refine hK5 _ _ ?_
  clear hK5 K5
  refine wp_seq_k (fun K6 hK6 => ?_)
  refine e_region (fun R hR => ?_)
  refine e_op H rfl rfl (by decide) (x_move H rfl rfl) ?_
  clear H a; intro a H
  refine e_callq H rfl rfl (by decide) rfl rfl (Tryd.call21 _) (sum_nil w1) ?_
  clear H a
  rintro e w2 ⟨rfl, E2⟩
  refine ⟨_, rfl, fun a H => ?_⟩
  have E3 := E1.tr E2
  refine e_op H rfl rfl (by decide) (x_build (v := .agg (u8s (List.replicate 32 0)).toArray) H rfl rfl (run_build _ 26 _ _ (by kernel_rfl))) ?_
  clear H a; intro a H
  refine e_op H rfl rfl (by decide) (x_bin H rfl rfl rfl eqg26 (eql26 (c := true) (by simp) (by simp) (by simp))) ?_
  clear H a; intro a H
  refine e_op H rfl rfl (by decide) (x_move H rfl rfl) ?_
  clear H a; intro a H
  refine e_opg H (wanted_true H rfl rfl rfl rfl) rfl (by decide) (x_move H rfl rfl) ?_
  clear H a; intro a H
  refine e_callqg H (wanted_true H rfl rfl rfl rfl) rfl (by decide) rfl rfl (Tryd.call24 _) (len_nil w2) ?_
  clear H a
  rintro e w3 ⟨rfl, rfl⟩
  refine ⟨_, rfl, fun a H => ?_⟩
  refine e_opg H (wanted_true H rfl rfl rfl rfl) rfl (by decide) (x_binI H rfl rfl rfl (b_eql (b := true) (rfl))) ?_
  clear H a; intro a H
  refine e_op H rfl rfl (by decide) (x_pickT H rfl rfl rfl) ?_
  clear H a; intro a H
  refine e_op H rfl rfl (by decide) (x_move H rfl rfl) ?_
  clear H a; intro a H
  refine e_opg H (wanted_true H rfl rfl rfl rfl) rfl (by decide) (x_move H rfl rfl) ?_
  clear H a; intro a H
  refine e_callqg H (wanted_true H rfl rfl rfl rfl) rfl (by decide) rfl rfl (Tryd.call25 _) (copy_nil _) ?_
  clear H a
  rintro e w3 ⟨rfl, rfl⟩
  refine ⟨_, rfl, fun a H => ?_⟩
  refine e_opg H (wanted_true H rfl rfl rfl rfl) rfl (by decide) (x_bin H rfl rfl rfl (by rw [eqGuard_at_pointer]; rfl) (b_pnil (c := true) Tryd.underlying30 rfl)) ?_
  clear H a; intro a H
  refine e_op H rfl rfl (by decide) (x_pickT H rfl rfl rfl) ?_
  clear H a; intro a H
  refine e_op H rfl rfl (by decide) (x_assign H rfl rfl) ?_
  clear H a; intro a H
  refine e_nil (hR.out _ _ ?_)
  clear hR R
  refine hK6 _ _ ?_
  clear hK6 K6
  refine wp_ret ?_
  exact ret1 H rfl rfl ⟨rfl, E3⟩
set_option maxHeartbeats 1000000 in
theorem digestCopies_any (a0 a1 a2 : Option Addr) (m0 c0 m1 c1 m2 c2 : Nat) (q0 q1 q2 : List UInt8) (W : World) (hp0 : Bs W a0 m0 q0) (hp1 : Bs W a1 m1 q1) (hp2 : Bs W a2 m2 q2) (hc0 : m0 ≤ c0) (hc1 : m1 ≤ c1) (hc2 : m2 ≤ c2)
    (hn0 : a0 = none → c0 = 0) (hn1 : a1 = none → c1 = 0) (hn2 : a2 = none → c2 = 0) (K0 : Kc W) (h0 : 0 < W.heap.size) :
    Calls Tryd.prog 7 #[.slice a0 m0 c0, .slice a1 m1 c1, .slice a2 m2 c2] W fun e w' => e = .returned (.bool true) ∧ Ext W w' := by
  refine calls_has (args := [.slice a0 m0 c0, .slice a1 m1 c1, .slice a2 m2 c2]) Tryd.func7 rfl Tryd.ntmps7 (Nat.le_of_ble_eq_true rfl) (fun a H => ?_)
  simp only [argl, Nat.reduceAdd] at H
  refine wp_seq_k (fun K1 hK1 => ?_)
  refine e_region (fun R hR => ?_)
  refine e_op H rfl rfl (by decide) (x_assign H rfl rfl) ?_
  clear H a; intro a H
  refine e_nil (hR.out _ _ ?_)
  clear hR R
  refine hK1 _ _ ?_
  clear hK1 K1
  refine wp_seq_k (fun K2 hK2 => ?_)
  refine wp_seq_k (fun K3 hK3 => ?_)
  refine e_region (fun R hR => ?_)
  refine e_callq H rfl rfl (by decide) rfl rfl (Tryd.call14 _) (awake_any W K0 h0) ?_
  clear H a
  rintro e w1 ⟨rfl, E1⟩
  refine ⟨_, rfl, fun a H => ?_⟩
  have hs1 := E1.sz
  refine e_op H rfl rfl (by decide) (x_un H rfl rfl (u_not (c := false) (rfl))) ?_
  clear H a; intro a H
  refine e_nil (hR.out _ _ ?_)
  clear hR R
  refine hK3 _ _ ?_
  clear hK3 K3
  refine c_false H rfl ?_
  refine wp_skip ?_
  refine hK2 _ _ ?_
  clear hK2 K2
  refine wp_seq_k (fun K4 hK4 => ?_)
  refine e_region (fun R hR => ?_)
  refine e_op H rfl rfl (by decide) (x_move H rfl rfl) ?_
  clear H a; intro a H
  refine e_callp H rfl rfl (by decide) rfl rfl (Tryd.call15 _) (short_any a0 m0 c0 _ hc0) ?_
  clear H a; intro a H
  refine e_op H rfl rfl (by decide) (x_move H rfl rfl) ?_
  clear H a; intro a H
  refine e_callp H rfl rfl (by decide) rfl rfl (Tryd.call15 _) (short_any a1 m1 c1 _ hc1) ?_
  clear H a; intro a H
  refine e_op H rfl rfl (by decide) (x_move H rfl rfl) ?_
  clear H a; intro a H
  refine e_callp H rfl rfl (by decide) rfl rfl (Tryd.call15 _) (short_any a2 m2 c2 _ hc2) ?_
  clear H a; intro a H
  refine e_op H rfl rfl (by decide) (x_assign H rfl rfl) ?_
  clear H a; intro a H
  refine e_op H rfl rfl (by decide) (x_assign H rfl rfl) ?_
  clear H a; intro a H
  refine e_op H rfl rfl (by decide) (x_assign H rfl rfl) ?_
  clear H a; intro a H
  refine e_nil (hR.out _ _ ?_)
  clear hR R
  refine hK4 _ _ ?_
  clear hK4 K4
  refine wp_seq_k (fun K5 hK5 => ?_)
  refine e_region (fun R hR => ?_)
  obtain ⟨p0, B0, e0⟩ := bs_short hp0
  obtain ⟨p1, B1, e1⟩ := bs_short hp1
  obtain ⟨p2, B2, e2⟩ := bs_short hp2
  have l0 := B0.leng
  have l1 := B1.leng
  have l2 := B2.leng
  clear e0 e1 e2
  refine e_callq H rfl rfl (by decide) rfl rfl (Tryd.call18 _) (new_any w1) ?_
  clear H a
  rintro e w2 ⟨g, rfl, HI, hg, E2⟩
  refine ⟨_, rfl, fun a H => ?_⟩
  have E3 := E1.tr E2
  have hs3 := E3.sz
  refine e_op H rfl rfl (by decide) (x_assign H rfl rfl) ?_
  clear H a; intro a H
  refine e_nil (hR.out _ _ ?_)
  clear hR R
  refine hK5 _ _ ?_
  clear hK5 K5
  refine wp_seq_k (fun K6 hK6 => ?_)
  refine e_region (fun R hR => ?_)
  refine e_op H rfl rfl (by decide) (x_move H rfl rfl) ?_
  clear H a; intro a H
  refine e_op H rfl rfl (by decide) (x_move H rfl rfl) ?_
  clear H a; intro a H
  refine e_callq H rfl rfl (by decide) rfl rfl (Tryd.call19 _) (write_any g [] p0 a0 (min m0 300) c0 w2 HI (Sv.old B0 E3 (by omega) hn0 (by omega)) (K0.ext E3) (by omega) (by simp; omega)) ?_
  clear H a
  rintro e w3 ⟨rfl, HI3, F3⟩
  refine ⟨_, rfl, fun a H => ?_⟩
  rw [List.nil_append] at HI3
  have E4 := F3.ext E3 (fun x hx => by simp only [List.mem_singleton] at hx; omega)
  refine e_nil (hR.out _ _ ?_)
  clear hR R
  refine hK6 _ _ ?_
  clear hK6 K6
  refine wp_seq_k (fun K7 hK7 => ?_)
  refine e_region (fun R hR => ?_)
  refine e_op H rfl rfl (by decide) (x_move H rfl rfl) ?_
  clear H a; intro a H
  refine e_callq H rfl rfl (by decide) rfl rfl (Tryd.call25 _) (copy_any g p0 w3 HI3) ?_
  clear H a
  rintro e w4 ⟨g3, rfl, HJ, hg3, E45⟩
  refine ⟨_, rfl, fun a H => ?_⟩
  have HI4 := HI3.ext E45
  have E5 := E4.tr E45
  have hgl := HI3.lt
  have hs4 := E4.sz
  refine e_op H rfl rfl (by decide) (x_assign H rfl rfl) ?_
  clear H a; intro a H
  refine e_nil (hR.out _ _ ?_)
  clear hR R
  refine hK7 _ _ ?_
  clear hK7 K7
  refine wp_seq_k (fun K8 hK8 => ?_)
  refine wp_seq_k (fun K9 hK9 => ?_)
  refine e_region (fun R hR => ?_)
  refine e_op H rfl rfl (by decide) (x_move H rfl rfl) ?_
  clear H a; intro a H
  refine e_op H rfl rfl (by decide) (x_bin H rfl rfl rfl (by rw [eqGuard_at_pointer]; rfl) (b_pnil (c := false) Tryd.underlying30 rfl)) ?_
  clear H a; intro a H
  refine e_nil (hR.out _ _ ?_)
  clear hR R
  refine hK9 _ _ ?_
  clear hK9 K9
  refine c_false H rfl ?_
  refine wp_skip ?_
  refine hK8 _ _ ?_
  clear hK8 K8
  refine wp_seq_k (fun K10 hK10 => ?_)
  refine e_region (fun R hR => ?_)
  refine e_op H rfl rfl (by decide) (x_move H rfl rfl) ?_
  clear H a; intro a H
  refine e_op H rfl rfl (by decide) (x_move H rfl rfl) ?_
  clear H a; intro a H
  refine e_callq H rfl rfl (by decide) rfl rfl (Tryd.call19 _) (write_any g p0 p1 a1 (min m1 300) c1 w4 HI4 (Sv.old B1 E5 (by omega) hn1 (by omega)) (K0.ext E5) (by omega) (by omega)) ?_
  clear H a
  rintro e w5 ⟨rfl, HI5, F5⟩
  refine ⟨_, rfl, fun a H => ?_⟩
  have HJ5 := HJ.frm F5 (by simp; omega)
  have E6 := F5.ext E5 (fun x hx => by simp only [List.mem_singleton] at hx; omega)
  refine e_nil (hR.out _ _ ?_)
  clear hR R
  refine hK10 _ _ ?_
  clear hK10 K10
  refine wp_seq_k (fun K11 hK11 => ?_)
  refine e_region (fun R hR => ?_)
  refine e_op H rfl rfl (by decide) (x_move H rfl rfl) ?_
  clear H a; intro a H
  refine e_op H rfl rfl (by decide) (x_move H rfl rfl) ?_
  clear H a; intro a H
  refine e_callq H rfl rfl (by decide) rfl rfl (Tryd.call19 _) (write_any g3 p0 p2 a2 (min m2 300) c2 w5 HJ5 (Sv.old B2 E6 (by omega) hn2 (by omega)) (K0.ext E6) (by omega) (by omega)) ?_
  clear H a
  rintro e w6 ⟨rfl, HJ6, F6⟩
  refine ⟨_, rfl, fun a H => ?_⟩
  have HI6 := HI5.frm F6 (by simp; omega)
  have E7 := F6.ext E6 (fun x hx => by simp only [List.mem_singleton] at hx; omega)
  have hs7 := E7.sz
  clear HI HI3 HI4 HI5 HJ HJ5 E45
  refine e_nil (hR.out _ _ ?_)
  clear hR R
  refine hK11 _ _ ?_
  clear hK11 K11
  refine wp_seq_k (fun K12 hK12 => ?_)
  refine e_region (fun R hR => ?_)
  refine e_op H rfl rfl (by decide) (x_move H rfl rfl) ?_
  clear H a; intro a H
  refine e_callq H rfl rfl (by decide) rfl rfl (Tryd.call21 _) (sum_any g (p0 ++ p1) w6 HI6 (K0.ext E7) (by omega) (by rw [List.length_append]; omega)) ?_
  clear H a
  rintro e w7 ⟨rfl, E78⟩
  refine ⟨_, rfl, fun a H => ?_⟩
  have E8 := E7.tr E78
  have HJ7 := HJ6.ext E78
  refine e_op H rfl rfl (by decide) (x_buildSlice H rfl rfl (bs0 _)) ?_
  clear H a; intro a H
  have Z8 := Ow.zero w7 w7.heap.size rfl w7.heap.size (Nat.le_refl _)
  have EZ8 := E8.al (.cells #[] 5)
  have hsz8 := E8.sz
  obtain ⟨b8, d8, v8, hr8, O8, G8⟩ := run_app (w7.alloc (.cells #[] 5)) 22 w7.heap.size (some ⟨w7.heap.size, 0, none⟩) 0 0 [] a0 (min m0 300) c0 p0 Z8 (EZ8.bs B0) (by omega) (by simp) hn0
  have EA8 := EZ8.app Z8 (by omega) G8
  have hsv8 : w7.heap.size ≤ v8.heap.size := by have := G8.size; simp at this; omega
  rw [List.nil_append, Nat.zero_add] at O8
  rw [Nat.zero_add] at hr8
  obtain ⟨bb8, dd8, vv8, hrr8, OO8, GG8⟩ := run_app v8 22 w7.heap.size b8 (min m0 300) d8 p0 a1 (min m1 300) c1 p1 O8 (EA8.bs B1) (by omega) (by omega) hn1
  have EB8 := EA8.app O8 (by omega) GG8
  have hob8 := OO8.cap
  refine e_op H rfl rfl (by decide) (x_move H rfl rfl) ?_
  clear H a; intro a H
  refine e_op H rfl rfl (by decide) (x_builtin H rfl rfl (fun cs => bi_app hr8)) ?_
  clear H a; intro a H
  refine e_op H rfl rfl (by decide) (x_move H rfl rfl) ?_
  clear H a; intro a H
  refine e_op H rfl rfl (by decide) (x_builtin H rfl rfl (fun cs => bi_app hrr8)) ?_
  clear H a; intro a H
  refine e_callq H rfl rfl (by decide) rfl rfl (Tryd.call16 _) (dsum_any bb8 (min m0 300 + min m1 300) dd8 (p0 ++ p1) vv8 OO8.bs hob8.1 hob8.2 (K0.ext EB8) (by have := EB8.sz; omega) (by omega)) ?_
  clear H a
  rintro e w9 ⟨rfl, E89⟩
  refine ⟨_, rfl, fun a H => ?_⟩
  have E9 := EB8.tr E89
  have X7 : Ext w7 vv8 := (((Ext.refl w7).al (.cells #[] 5)).app Z8 (Nat.le_refl _) G8).app O8 (Nat.le_refl _) GG8
  have HJ9 := (HJ7.ext X7).ext E89
  refine e_op H rfl rfl (by decide) (x_bin H rfl rfl rfl eqg26 (eql26 (c := true) (sha_len _) (sha_len _) (by simp))) ?_
  clear H a; intro a H
  refine e_op H rfl rfl (by decide) (x_move H rfl rfl) ?_
  clear H a; intro a H
  refine e_opg H (wanted_true H rfl rfl rfl rfl) rfl (by decide) (x_move H rfl rfl) ?_
  clear H a; intro a H
  refine e_callqg H (wanted_true H rfl rfl rfl rfl) rfl (by decide) rfl rfl (Tryd.call21 _) (sum_any g3 (p0 ++ p2) w9 HJ9 (K0.ext E9) (by have := E9.sz; omega) (by rw [List.length_append]; omega)) ?_
  clear H a
  rintro e w10 ⟨rfl, E910⟩
  refine ⟨_, rfl, fun a H => ?_⟩
  have E10 := E9.tr E910
  have HJ10 := HJ9.ext E910
  refine e_opg H (wanted_true H rfl rfl rfl rfl) rfl (by decide) (x_buildSlice H rfl rfl (bs0 _)) ?_
  clear H a; intro a H
  have Z9 := Ow.zero w10 w10.heap.size rfl w10.heap.size (Nat.le_refl _)
  have EZ9 := E10.al (.cells #[] 5)
  have hsz9 := E10.sz
  obtain ⟨b9, d9, v9, hr9, O9, G9⟩ := run_app (w10.alloc (.cells #[] 5)) 22 w10.heap.size (some ⟨w10.heap.size, 0, none⟩) 0 0 [] a0 (min m0 300) c0 p0 Z9 (EZ9.bs B0) (by omega) (by simp) hn0
  have EA9 := EZ9.app Z9 (by omega) G9
  have hsv9 : w10.heap.size ≤ v9.heap.size := by have := G9.size; simp at this; omega
  rw [List.nil_append, Nat.zero_add] at O9
  rw [Nat.zero_add] at hr9
  obtain ⟨bb9, dd9, vv9, hrr9, OO9, GG9⟩ := run_app v9 22 w10.heap.size b9 (min m0 300) d9 p0 a2 (min m2 300) c2 p2 O9 (EA9.bs B2) (by omega) (by omega) hn2
  have EB9 := EA9.app O9 (by omega) GG9
  have hob9 := OO9.cap
  refine e_opg H (wanted_true H rfl rfl rfl rfl) rfl (by decide) (x_move H rfl rfl) ?_
  clear H a; intro a H
  refine e_opg H (wanted_true H rfl rfl rfl rfl) rfl (by decide) (x_builtin H rfl rfl (fun cs => bi_app hr9)) ?_
  clear H a; intro a H
  refine e_opg H (wanted_true H rfl rfl rfl rfl) rfl (by decide) (x_move H rfl rfl) ?_
  clear H a; intro a H
  refine e_opg H (wanted_true H rfl rfl rfl rfl) rfl (by decide) (x_builtin H rfl rfl (fun cs => bi_app hrr9)) ?_
  clear H a; intro a H
  refine e_callqg H (wanted_true H rfl rfl rfl rfl) rfl (by decide) rfl rfl (Tryd.call16 _) (dsum_any bb9 (min m0 300 + min m2 300) dd9 (p0 ++ p2) vv9 OO9.bs hob9.1 hob9.2 (K0.ext EB9) (by have := EB9.sz; omega) (by omega)) ?_
  clear H a
  rintro e w11 ⟨rfl, E1011⟩
  refine ⟨_, rfl, fun a H => ?_⟩
  have E11 := EB9.tr E1011
  have X10 : Ext w10 vv9 := (((Ext.refl w10).al (.cells #[] 5)).app Z9 (Nat.le_refl _) G9).app O9 (Nat.le_refl _) GG9
  have HJ11 := (HJ10.ext X10).ext E1011
  refine e_opg H (wanted_true H rfl rfl rfl rfl) rfl (by decide) (x_bin H rfl rfl rfl eqg26 (eql26 (c := true) (sha_len _) (sha_len _) (by simp))) ?_
  clear H a; intro a H
  refine e_op H rfl rfl (by decide) (x_pickT H rfl rfl rfl) ?_
  clear H a; intro a H
  refine e_op H rfl rfl (by decide) (x_move H rfl rfl) ?_
  clear H a; intro a H
  refine e_opg H (wanted_true H rfl rfl rfl rfl) rfl (by decide) (x_move H rfl rfl) ?_
  clear H a; intro a H
  refine e_callqg H (wanted_true H rfl rfl rfl rfl) rfl (by decide) rfl rfl (Tryd.call24 _) (len_any g3 (p0 ++ p2) w11 HJ11) ?_
  clear H a
  rintro e w12 ⟨rfl, rfl⟩
  refine ⟨_, rfl, fun a H => ?_⟩
  refine e_opg H (wanted_true H rfl rfl rfl rfl) rfl (by decide) (x_move H rfl rfl) ?_
  clear H a; intro a H
  refine e_opg H (wanted_true H rfl rfl rfl rfl) rfl (by decide) (x_builtin H rfl rfl (fun cs => len_sl Tryd.underlying22)) ?_
  clear H a; intro a H
  refine e_opg H (wanted_true H rfl rfl rfl rfl) rfl (by decide) (x_move H rfl rfl) ?_
  clear H a; intro a H
  refine e_opg H (wanted_true H rfl rfl rfl rfl) rfl (by decide) (x_builtin H rfl rfl (fun cs => len_sl Tryd.underlying22)) ?_
  clear H a; intro a H
  refine e_opg H (wanted_true H rfl rfl rfl rfl) rfl (by decide) (x_binI H rfl rfl rfl (b_add (z := ((min m0 300 + min m2 300 : Nat) : Int)) (by rw [IntKind.wrap_i64]; omega))) ?_
  clear H a; intro a H
  refine e_opg H (wanted_true H rfl rfl rfl rfl) rfl (by decide) (x_conv H rfl rfl (c_int (z := ((min m0 300 + min m2 300 : Nat) : Int)) Tryd.underlying3 Tryd.underlying39 (wrap_u64_small _ (by omega) (by omega)))) ?_
  clear H a; intro a H
  refine e_opg H (wanted_true H rfl rfl rfl rfl) rfl (by decide) (x_binI H rfl rfl rfl (b_eql (b := true) (beq_t (by rw [List.length_append, l0, l2])))) ?_
  clear H a; intro a H
  refine e_op H rfl rfl (by decide) (x_pickT H rfl rfl rfl) ?_
  clear H a; intro a H
  refine e_op H rfl rfl (by decide) (x_assign H rfl rfl) ?_
  clear H a; intro a H
  refine e_nil (hR.out _ _ ?_)
  clear hR R
  refine hK12 _ _ ?_
  clear hK12 K12
  refine wp_ret ?_
  exact ret1 H rfl rfl ⟨rfl, E11⟩
end Go.Proofs.YtknllmcpogoeoaaDoor
