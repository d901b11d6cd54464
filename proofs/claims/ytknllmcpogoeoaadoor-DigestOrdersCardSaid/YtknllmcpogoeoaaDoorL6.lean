/- DigestOrders, walked. -/
import Derived.Test.YtknllmcpogoeoaaDoorL5
namespace Go.Proofs.YtknllmcpogoeoaaDoor
open Go.RowKit
set_option linter.unusedVariables false
set_option linter.unusedSimpArgs false
set_option maxRecDepth 100000
theorem ordersA (x y z : List UInt8) (hx : x.length = 32) (hy : y.length = 32) (hz : z.length = 32) (hc : x = y) (hxy : blt x y = false) (W : World) (K0 : Kc W) (h0 : 0 < W.heap.size) :
    Calls Tryd.prog 5 #[.agg (u8s x).toArray, .agg (u8s y).toArray, .agg (u8s z).toArray] W fun e w' => e = .returned (.bool true) ∧ Ext W w' := by
  refine calls_has (args := [.agg (u8s x).toArray, .agg (u8s y).toArray, .agg (u8s z).toArray]) Tryd.func5 rfl Tryd.ntmps5 (Nat.le_of_ble_eq_true rfl) (fun a H => ?_)
  simp only [argl, Nat.reduceAdd] at H
  refine wp_seq_k (fun K1 hK1 => ?_)
  refine e_region (fun R hR => ?_)
  refine e_op H rfl rfl (by decide) (x_box H rfl rfl bx_new) ?_
  clear H a; intro a H
  have T3 := Blk.new W 25 (u8s x)
  have E3 := (Ext.refl W).al (.cells (u8s x).toArray 25)
  obtain ⟨g3, hg3⟩ : ∃ g, g = W.heap.size := ⟨_, rfl⟩
  rw [← hg3] at H T3
  have hs3 := E3.sz
  generalize W.alloc (.cells (u8s x).toArray 25) = w3 at *
  refine e_op H rfl rfl (by decide) (x_box H rfl rfl bx_new) ?_
  clear H a; intro a H
  have T4 := Blk.new w3 25 (u8s y)
  have E4 := E3.al (.cells (u8s y).toArray 25)
  replace T3 := T3.alloc (.cells (u8s y).toArray 25)
  obtain ⟨g4, hg4⟩ : ∃ g, g = w3.heap.size := ⟨_, rfl⟩
  rw [← hg4] at H T4
  have hs4 := E4.sz
  generalize w3.alloc (.cells (u8s y).toArray 25) = w4 at *
  refine e_op H rfl rfl (by decide) (x_box H rfl rfl bx_new) ?_
  clear H a; intro a H
  have T5 := Blk.new w4 25 (u8s z)
  have E5 := E4.al (.cells (u8s z).toArray 25)
  replace T3 := T3.alloc (.cells (u8s z).toArray 25)
  replace T4 := T4.alloc (.cells (u8s z).toArray 25)
  obtain ⟨g5, hg5⟩ : ∃ g, g = w4.heap.size := ⟨_, rfl⟩
  rw [← hg5] at H T5
  have hs5 := E5.sz
  generalize w4.alloc (.cells (u8s z).toArray 25) = w5 at *
  refine e_op H rfl rfl (by decide) (x_assign H rfl rfl) ?_
  clear H a; intro a H
  refine e_nil (hR.out _ _ ?_)
  clear hR R
  refine hK1 _ _ ?_
  clear hK1 K1
  refine wp_seq_k (fun K2 hK2 => ?_)
  refine wp_seq_k (fun K3 hK3 => ?_)
  refine e_region (fun R hR => ?_)
  refine e_callq H rfl rfl (by decide) rfl rfl (Tryd.call14 _) (awake_any w5 (K0.ext E5) (by omega)) ?_
  clear H a
  rintro e w1 ⟨rfl, E51⟩
  refine ⟨_, rfl, fun a H => ?_⟩
  replace T3 := T3.ext E51
  replace T4 := T4.ext E51
  replace T5 := T5.ext E51
  have E1 := E5.tr E51
  clear E3 E4 E51 E5
  refine e_op H rfl rfl (by decide) (x_un H rfl rfl (u_not (c := false) (rfl))) ?_
  clear H a; intro a H
  refine e_nil (hR.out _ _ ?_)
  clear hR R
  refine hK3 _ _ ?_
  clear hK3 K3
  refine c_false H rfl ?_
  refine wp_skip ?_
  refine hK2 _ _ ?_
  clear hK2 K2
  refine wp_seq_k (fun K4 hK4 => ?_)
  refine Code.wp_mono (Q := fun e a w => e = Exit.normal ∧ ∃ g7 g8 g9, Has a 59 [(3, .pointer (some ⟨g3, 0, none⟩)), (4, .pointer (some ⟨g4, 0, none⟩)), (5, .pointer (some ⟨g5, 0, none⟩)), (7, .pointer (some ⟨g7, 0, none⟩)), (8, .pointer (some ⟨g8, 0, none⟩)), (9, .pointer (some ⟨g9, 0, none⟩))] ∧ Blk w g3 25 (u8s x) ∧ Blk w g4 25 (u8s y) ∧ Blk w g5 25 (u8s z) ∧ Blk w g7 26 (u8s x) ∧ Blk w g8 26 (u8s y) ∧ Blk w g9 26 (u8s z) ∧ Ext W w) (fun e a w hM => ?_) ?_
  · skip
    clear H T3 T4 T5 E1
    obtain ⟨rfl, g7, g8, g9, H, T3, T4, T5, T7, T8, T9, E1⟩ := hM
    refine hK4 _ _ ?_
    clear hK4 K4
    refine wp_seq_k (fun K5 hK5 => ?_)
    refine h_start (by kernel_rfl) (fun R hR => ?_)
    replace T3 : Blk w.drew g3 25 (u8s x) := T3
    replace T4 : Blk w.drew g4 25 (u8s y) := T4
    replace T5 : Blk w.drew g5 25 (u8s z) := T5
    replace T7 : Blk w.drew g7 26 (u8s x) := T7
    replace T8 : Blk w.drew g8 26 (u8s y) := T8
    replace T9 : Blk w.drew g9 26 (u8s z) := T9
    replace E1 := E1.dr
    generalize w.drew = w at *
    refine h_take 0 H rfl rfl rfl (by decide) (by kernel_rfl) (by kernel_rfl) (by kernel_rfl) (fun w' hSw => (x_load H rfl rfl (l_row (T7.ext hSw) Tryd.underlying26 rfl (by rw [size_d x hx]; kernel_rfl)))) ?_
    clear H a; intro a H
    refine h_take 1 H rfl rfl rfl (by decide) (by kernel_rfl) (by kernel_rfl) (by kernel_rfl) (fun w' hSw => (x_load H rfl rfl (l_row (T8.ext hSw) Tryd.underlying26 rfl (by rw [size_d y hy]; kernel_rfl)))) ?_
    clear H a; intro a H
    refine h_take 3 H rfl rfl rfl (by decide) (by kernel_rfl) (by kernel_rfl) (by kernel_rfl) (fun w' hSw => (x_load H rfl rfl (l_row (T3.ext hSw) Tryd.underlying25 rfl (by rw [size_d x hx]; kernel_rfl)))) ?_
    clear H a; intro a H
    refine h_take 4 H rfl rfl rfl (by decide) (by kernel_rfl) (by kernel_rfl) (by kernel_rfl) (fun w' hSw => (x_load H rfl rfl (l_row (T4.ext hSw) Tryd.underlying25 rfl (by rw [size_d y hy]; kernel_rfl)))) ?_
    clear H a; intro a H
    refine h_call 2 H rfl (by kernel_rfl) (wanted_none rfl) rfl (by decide) rfl rfl (Tryd.call22 _) (less_any x y hx hy false hxy _) ?_
    clear H a
    rintro e w20 ⟨rfl, EE⟩
    refine ⟨_, rfl, EE, fun a H => ?_⟩
    replace T3 := T3.ext EE
    replace T4 := T4.ext EE
    replace T5 := T5.ext EE
    replace T7 := T7.ext EE
    replace T8 := T8.ext EE
    replace T9 := T9.ext EE
    replace E1 := E1.tr EE
    clear EE
    refine h_call 5 H rfl (by kernel_rfl) (wanted_none rfl) rfl (by decide) rfl rfl (Tryd.call23 _) (refless_any x y hx hy false hxy _) ?_
    clear H a
    rintro e w21 ⟨rfl, EE⟩
    refine ⟨_, rfl, EE, fun a H => ?_⟩
    replace T3 := T3.ext EE
    replace T4 := T4.ext EE
    replace T5 := T5.ext EE
    replace T7 := T7.ext EE
    replace T8 := T8.ext EE
    replace T9 := T9.ext EE
    replace E1 := E1.tr EE
    clear EE
    refine h_take 6 H rfl rfl rfl (by decide) (by kernel_rfl) (by kernel_rfl) (by kernel_rfl) (fun w' hSw => (x_bin H rfl rfl rfl eqg4 (eqb4 (c := true) rfl))) ?_
    clear H a; intro a H
    refine h_take 7 H rfl rfl rfl (by decide) (by kernel_rfl) (by kernel_rfl) (by kernel_rfl) (fun w' hSw => (x_move H rfl rfl)) ?_
    clear H a; intro a H
    refine h_takeg 8 H rfl (wanted_true H rfl rfl rfl rfl) rfl (by decide) (by kernel_rfl) (by kernel_rfl) (by kernel_rfl) (fun w' hSw => (x_load H rfl rfl (l_row (T7.ext hSw) Tryd.underlying26 rfl (by rw [size_d x hx]; kernel_rfl)))) ?_
    clear H a; intro a H
    refine h_takeg 9 H rfl (wanted_true H rfl rfl rfl rfl) rfl (by decide) (by kernel_rfl) (by kernel_rfl) (by kernel_rfl) (fun w' hSw => (x_load H rfl rfl (l_row (T7.ext hSw) Tryd.underlying26 rfl (by rw [size_d x hx]; kernel_rfl)))) ?_
    clear H a; intro a H
    refine h_call 10 H rfl (by kernel_rfl) (wanted_true H rfl rfl rfl rfl) rfl (by decide) rfl rfl (Tryd.call22 _) (less_any x x hx hx false (blt_irr x) _) ?_
    clear H a
    rintro e w22 ⟨rfl, EE⟩
    refine ⟨_, rfl, EE, fun a H => ?_⟩
    replace T3 := T3.ext EE
    replace T4 := T4.ext EE
    replace T5 := T5.ext EE
    replace T7 := T7.ext EE
    replace T8 := T8.ext EE
    replace T9 := T9.ext EE
    replace E1 := E1.tr EE
    clear EE
    refine h_takeg 11 H rfl (wanted_true H rfl rfl rfl rfl) rfl (by decide) (by kernel_rfl) (by kernel_rfl) (by kernel_rfl) (fun w' hSw => (x_un H rfl rfl (u_not (c := true) (rfl)))) ?_
    clear H a; intro a H
    refine h_take 12 H rfl rfl rfl (by decide) (by kernel_rfl) (by kernel_rfl) (by kernel_rfl) (fun w' hSw => (x_pickT H rfl rfl rfl)) ?_
    clear H a; intro a H
    refine h_take 13 H rfl rfl rfl (by decide) (by kernel_rfl) (by kernel_rfl) (by kernel_rfl) (fun w' hSw => (x_move H rfl rfl)) ?_
    clear H a; intro a H
    refine h_takeg 14 H rfl (wanted_true H rfl rfl rfl rfl) rfl (by decide) (by kernel_rfl) (by kernel_rfl) (by kernel_rfl) (fun w' hSw => (x_load H rfl rfl (l_row (T7.ext hSw) Tryd.underlying26 rfl (by rw [size_d x hx]; kernel_rfl)))) ?_
    clear H a; intro a H
    refine h_takeg 15 H rfl (wanted_true H rfl rfl rfl rfl) rfl (by decide) (by kernel_rfl) (by kernel_rfl) (by kernel_rfl) (fun w' hSw => (x_load H rfl rfl (l_row (T8.ext hSw) Tryd.underlying26 rfl (by rw [size_d y hy]; kernel_rfl)))) ?_
    clear H a; intro a H
    refine h_takeg 16 H rfl (wanted_true H rfl rfl rfl rfl) rfl (by decide) (by kernel_rfl) (by kernel_rfl) (by kernel_rfl) (fun w' hSw => (x_bin H rfl rfl rfl eqg26 (eql26 (c := true) hx hy (by simp [hc])))) ?_
    clear H a; intro a H
    refine h_takeg 17 H rfl (wanted_true H rfl rfl rfl rfl) rfl (by decide) (by kernel_rfl) (by kernel_rfl) (by kernel_rfl) (fun w' hSw => (x_move H rfl rfl)) ?_
    clear H a; intro a H
    refine h_skip 18 H rfl (wanted_false H rfl rfl rfl rfl) rfl (by decide) (by kernel_rfl) (by kernel_rfl) (by kernel_rfl) ?_
    clear H a; intro a H
    refine h_skip 19 H rfl (wanted_false H rfl rfl rfl rfl) rfl (by decide) (by kernel_rfl) (by kernel_rfl) (by kernel_rfl) ?_
    clear H a; intro a H
    refine h_skip 20 H rfl (wanted_false H rfl rfl rfl rfl) rfl (by decide) (by kernel_rfl) (by kernel_rfl) (by kernel_rfl) ?_
    clear H a; intro a H
    refine h_skip 21 H rfl (wanted_false H rfl rfl rfl rfl) rfl (by decide) (by kernel_rfl) (by kernel_rfl) (by kernel_rfl) ?_
    clear H a; intro a H
    refine h_skip 22 H rfl (wanted_false H rfl rfl rfl rfl) rfl (by decide) (by kernel_rfl) (by kernel_rfl) (by kernel_rfl) ?_
    clear H a; intro a H
    refine h_skip 23 H rfl (wanted_false H rfl rfl rfl rfl) rfl (by decide) (by kernel_rfl) (by kernel_rfl) (by kernel_rfl) ?_
    clear H a; intro a H
    refine h_skip 24 H rfl (wanted_false H rfl rfl rfl rfl) rfl (by decide) (by kernel_rfl) (by kernel_rfl) (by kernel_rfl) ?_
    clear H a; intro a H
    refine h_takeg 25 H rfl (wanted_true H rfl rfl rfl rfl) rfl (by decide) (by kernel_rfl) (by kernel_rfl) (by kernel_rfl) (fun w' hSw => (x_pickT H rfl rfl rfl)) ?_
    clear H a; intro a H
    refine h_take 26 H rfl rfl rfl (by decide) (by kernel_rfl) (by kernel_rfl) (by kernel_rfl) (fun w' hSw => (x_pickT H rfl rfl rfl)) ?_
    clear H a; intro a H
    refine h_take 27 H rfl rfl rfl (by decide) (by kernel_rfl) (by kernel_rfl) (by kernel_rfl) (fun w' hSw => (x_move H rfl rfl)) ?_
    clear H a; intro a H
    refine h_takeg 28 H rfl (wanted_true H rfl rfl rfl rfl) rfl (by decide) (by kernel_rfl) (by kernel_rfl) (by kernel_rfl) (fun w' hSw => (x_load H rfl rfl (l_row (T7.ext hSw) Tryd.underlying26 rfl (by rw [size_d x hx]; kernel_rfl)))) ?_
    clear H a; intro a H
    refine h_takeg 29 H rfl (wanted_true H rfl rfl rfl rfl) rfl (by decide) (by kernel_rfl) (by kernel_rfl) (by kernel_rfl) (fun w' hSw => (x_load H rfl rfl (l_row (T8.ext hSw) Tryd.underlying26 rfl (by rw [size_d y hy]; kernel_rfl)))) ?_
    clear H a; intro a H
    refine h_call 30 H rfl (by kernel_rfl) (wanted_true H rfl rfl rfl rfl) rfl (by decide) rfl rfl (Tryd.call22 _) (less_any x y hx hy false hxy _) ?_
    clear H a
    rintro e w25 ⟨rfl, EE⟩
    refine ⟨_, rfl, EE, fun a H => ?_⟩
    replace T3 := T3.ext EE
    replace T4 := T4.ext EE
    replace T5 := T5.ext EE
    replace T7 := T7.ext EE
    replace T8 := T8.ext EE
    replace T9 := T9.ext EE
    replace E1 := E1.tr EE
    clear EE
    refine h_takeg 31 H rfl (wanted_true H rfl rfl rfl rfl) rfl (by decide) (by kernel_rfl) (by kernel_rfl) (by kernel_rfl) (fun w' hSw => (x_un H rfl rfl (u_not (c := true) (rfl)))) ?_
    clear H a; intro a H
    refine h_takeg 32 H rfl (wanted_true H rfl rfl rfl rfl) rfl (by decide) (by kernel_rfl) (by kernel_rfl) (by kernel_rfl) (fun w' hSw => (x_move H rfl rfl)) ?_
    clear H a; intro a H
    refine h_skip 33 H rfl (wanted_false H rfl rfl rfl rfl) rfl (by decide) (by kernel_rfl) (by kernel_rfl) (by kernel_rfl) ?_
    clear H a; intro a H
    refine h_skip 34 H rfl (wanted_false H rfl rfl rfl rfl) rfl (by decide) (by kernel_rfl) (by kernel_rfl) (by kernel_rfl) ?_
    clear H a; intro a H
    refine h_skip 35 H rfl (wanted_false H rfl rfl rfl rfl) rfl (by decide) (by kernel_rfl) (by kernel_rfl) (by kernel_rfl) ?_
    clear H a; intro a H
    refine h_skip 36 H rfl (wanted_false H rfl rfl rfl rfl) rfl (by decide) (by kernel_rfl) (by kernel_rfl) (by kernel_rfl) ?_
    clear H a; intro a H
    refine h_takeg 37 H rfl (wanted_true H rfl rfl rfl rfl) rfl (by decide) (by kernel_rfl) (by kernel_rfl) (by kernel_rfl) (fun w' hSw => (x_pickT H rfl rfl rfl)) ?_
    clear H a; intro a H
    refine h_takeg 38 H rfl (wanted_true H rfl rfl rfl rfl) rfl (by decide) (by kernel_rfl) (by kernel_rfl) (by kernel_rfl) (fun w' hSw => (x_move H rfl rfl)) ?_
    clear H a; intro a H
    refine h_skip 39 H rfl (wanted_false H rfl rfl rfl rfl) rfl (by decide) (by kernel_rfl) (by kernel_rfl) (by kernel_rfl) ?_
    clear H a; intro a H
    refine h_skip 40 H rfl (wanted_false H rfl rfl rfl rfl) rfl (by decide) (by kernel_rfl) (by kernel_rfl) (by kernel_rfl) ?_
    clear H a; intro a H
    refine h_skip 41 H rfl (wanted_false H rfl rfl rfl rfl) rfl (by decide) (by kernel_rfl) (by kernel_rfl) (by kernel_rfl) ?_
    clear H a; intro a H
    refine h_takeg 42 H rfl (wanted_true H rfl rfl rfl rfl) rfl (by decide) (by kernel_rfl) (by kernel_rfl) (by kernel_rfl) (fun w' hSw => (x_pickT H rfl rfl rfl)) ?_
    clear H a; intro a H
    refine h_take 43 H rfl rfl rfl (by decide) (by kernel_rfl) (by kernel_rfl) (by kernel_rfl) (fun w' hSw => (x_pickT H rfl rfl rfl)) ?_
    clear H a; intro a H
    refine h_take 44 H rfl rfl rfl (by decide) (by kernel_rfl) (by kernel_rfl) (by kernel_rfl) (fun w' hSw => (x_assign H rfl rfl)) ?_
    clear H a; intro a H
    refine h_done (by kernel_rfl) (hR.out _ _ ?_)
    clear hR R
    refine hK5 _ _ ?_
    clear hK5 K5
    refine wp_ret ?_
    exact ret1 H rfl rfl ⟨rfl, E1⟩
  · skip
    refine h_start (by kernel_rfl) (fun R hR => ?_)
    have U3 : Blk w1.drew g3 25 (u8s x) := T3
    have U4 : Blk w1.drew g4 25 (u8s y) := T4
    have U5 : Blk w1.drew g5 25 (u8s z) := T5
    have EW := E1.dr
    clear T3 T4 T5 E1
    obtain ⟨w0, hw0⟩ : ∃ w0, w0 = w1.drew := ⟨_, rfl⟩
    rw [← hw0] at U3 U4 U5 EW ⊢
    have h30 := U3.lt
    have h40 := U4.lt
    have h50 := U5.lt
    have EV := Ext.refl w0
    refine h_take 0 H rfl rfl rfl (by decide) (by kernel_rfl) (by kernel_rfl) (by kernel_rfl) (fun w' hSw => (x_load H rfl rfl (l_row (U3.ext hSw) Tryd.underlying25 rfl (by rw [size_d x hx]; kernel_rfl)))) ?_
    clear H a; intro a H
    refine h_take 1 H rfl rfl rfl (by decide) (by kernel_rfl) (by kernel_rfl) (by kernel_rfl) (fun w' hSw => (x_load H rfl rfl (l_row (U4.ext hSw) Tryd.underlying25 rfl (by rw [size_d y hy]; kernel_rfl)))) ?_
    clear H a; intro a H
    refine h_take 2 H rfl rfl rfl (by decide) (by kernel_rfl) (by kernel_rfl) (by kernel_rfl) (fun w' hSw => (x_load H rfl rfl (l_row (U5.ext hSw) Tryd.underlying25 rfl (by rw [size_d z hz]; kernel_rfl)))) ?_
    clear H a; intro a H
    refine k_three 3 4 5 H (by kernel_rfl) rfl (wanted_none rfl) rfl (by decide) (x_alloc H rfl (al_new (z26 _))) (EV.al (.cells (u8s (List.replicate 32 0)).toArray 26)) rfl (wanted_none rfl) rfl (by decide) (x_alloc H rfl (al_new (z26 _))) (EV.al (.cells (u8s (List.replicate 32 0)).toArray 26)) rfl (wanted_none rfl) rfl (by decide) (x_alloc H rfl (al_new (z26 _))) (EV.al (.cells (u8s (List.replicate 32 0)).toArray 26)) ?_ ?_ ?_
    · skip
      clear H a; intro a H
      have D7 := Blk.new w0 26 (u8s (List.replicate 32 0))
      have EV0 := EV.al (.cells (u8s (List.replicate 32 0)).toArray 26)
      replace U3 := U3.alloc (.cells (u8s (List.replicate 32 0)).toArray 26)
      replace U4 := U4.alloc (.cells (u8s (List.replicate 32 0)).toArray 26)
      replace U5 := U5.alloc (.cells (u8s (List.replicate 32 0)).toArray 26)
      have hz0 := EV.sz
      obtain ⟨g7, hg7⟩ : ∃ g, g = w0.heap.size := ⟨_, rfl⟩
      rw [← hg7] at H D7
      have hl7 := D7.lt
      generalize hv0 : w0.alloc (.cells (u8s (List.replicate 32 0)).toArray 26) = v0 at *
      refine k_two 4 5 H (by kernel_rfl) rfl (wanted_none rfl) rfl (by decide) (x_alloc H rfl (al_new (z26 _))) (EV0.al (.cells (u8s (List.replicate 32 0)).toArray 26)) rfl (wanted_none rfl) rfl (by decide) (x_alloc H rfl (al_new (z26 _))) (EV0.al (.cells (u8s (List.replicate 32 0)).toArray 26)) ?_ ?_
      · skip
        clear H a; intro a H
        have D8 := Blk.new v0 26 (u8s (List.replicate 32 0))
        have EV1 := EV0.al (.cells (u8s (List.replicate 32 0)).toArray 26)
        replace U3 := U3.alloc (.cells (u8s (List.replicate 32 0)).toArray 26)
        replace U4 := U4.alloc (.cells (u8s (List.replicate 32 0)).toArray 26)
        replace U5 := U5.alloc (.cells (u8s (List.replicate 32 0)).toArray 26)
        replace D7 := D7.alloc (.cells (u8s (List.replicate 32 0)).toArray 26)
        have hz1 := EV0.sz
        obtain ⟨g8, hg8⟩ : ∃ g, g = v0.heap.size := ⟨_, rfl⟩
        rw [← hg8] at H D8
        have hl8 := D8.lt
        generalize hv1 : v0.alloc (.cells (u8s (List.replicate 32 0)).toArray 26) = v1 at *
        have hne34 : g7 ≠ g8 := by omega
        replace hl7 : g7 < v1.heap.size := D7.lt
        refine k_op 5 H rfl (by kernel_rfl) (wanted_none rfl) rfl (by decide) (x_alloc H rfl (al_new (z26 _))) (EV1.al (.cells (u8s (List.replicate 32 0)).toArray 26)) ?_
        clear H a; intro a H
        have D9 := Blk.new v1 26 (u8s (List.replicate 32 0))
        have EV2 := EV1.al (.cells (u8s (List.replicate 32 0)).toArray 26)
        replace U3 := U3.alloc (.cells (u8s (List.replicate 32 0)).toArray 26)
        replace U4 := U4.alloc (.cells (u8s (List.replicate 32 0)).toArray 26)
        replace U5 := U5.alloc (.cells (u8s (List.replicate 32 0)).toArray 26)
        replace D7 := D7.alloc (.cells (u8s (List.replicate 32 0)).toArray 26)
        replace D8 := D8.alloc (.cells (u8s (List.replicate 32 0)).toArray 26)
        have hz2 := EV1.sz
        obtain ⟨g9, hg9⟩ : ∃ g, g = v1.heap.size := ⟨_, rfl⟩
        rw [← hg9] at H D9
        have hl9 := D9.lt
        generalize hv2 : v1.alloc (.cells (u8s (List.replicate 32 0)).toArray 26) = v2 at *
        have hne35 : g7 ≠ g9 := by omega
        have hne45 : g8 ≠ g9 := by omega
        replace hl7 : g7 < v2.heap.size := D7.lt
        replace hl8 : g8 < v2.heap.size := D8.lt
        refine k_st 6 H rfl (by kernel_rfl) (wanted_none rfl) rfl (x_store H rfl rfl rfl (st_row D7 (by show _ = some (u8s x).toArray.size; rw [size_d x hx]; kernel_rfl) (by show _ = (u8s x).toArray.size; rw [size_d x hx]; rfl) (one_u8 _))) (EV2.row_ (g := g7) (by omega) (u8s x).toArray) ?_
        have F7 := EV2.row_ (g := g7) (by omega) (u8s x).toArray
        replace U3 := U3.grown (grown_setRow v2 g7 (u8s x).toArray) (by simp; omega)
        replace U4 := U4.grown (grown_setRow v2 g7 (u8s x).toArray) (by simp; omega)
        replace U5 := U5.grown (grown_setRow v2 g7 (u8s x).toArray) (by simp; omega)
        replace D8 := D8.grown (grown_setRow v2 g7 (u8s x).toArray) (by simp; omega)
        replace D9 := D9.grown (grown_setRow v2 g7 (u8s x).toArray) (by simp; omega)
        replace D7 : Blk (v2.setRow g7 (u8s x).toArray) g7 26 (u8s x) := D7.row (u8s x)
        generalize v2.setRow g7 (u8s x).toArray = s7 at *
        refine k_st 7 H rfl (by kernel_rfl) (wanted_none rfl) rfl (x_store H rfl rfl rfl (st_row D8 (by show _ = some (u8s y).toArray.size; rw [size_d y hy]; kernel_rfl) (by show _ = (u8s y).toArray.size; rw [size_d y hy]; rfl) (one_u8 _))) (F7.row_ (g := g8) (by omega) (u8s y).toArray) ?_
        have F8 := F7.row_ (g := g8) (by omega) (u8s y).toArray
        replace U3 := U3.grown (grown_setRow s7 g8 (u8s y).toArray) (by simp; omega)
        replace U4 := U4.grown (grown_setRow s7 g8 (u8s y).toArray) (by simp; omega)
        replace U5 := U5.grown (grown_setRow s7 g8 (u8s y).toArray) (by simp; omega)
        replace D7 := D7.grown (grown_setRow s7 g8 (u8s y).toArray) (by simp; omega)
        replace D9 := D9.grown (grown_setRow s7 g8 (u8s y).toArray) (by simp; omega)
        replace D8 : Blk (s7.setRow g8 (u8s y).toArray) g8 26 (u8s y) := D8.row (u8s y)
        generalize s7.setRow g8 (u8s y).toArray = s8 at *
        refine k_st 8 H rfl (by kernel_rfl) (wanted_none rfl) rfl (x_store H rfl rfl rfl (st_row D9 (by show _ = some (u8s z).toArray.size; rw [size_d z hz]; kernel_rfl) (by show _ = (u8s z).toArray.size; rw [size_d z hz]; rfl) (one_u8 _))) (F8.row_ (g := g9) (by omega) (u8s z).toArray) ?_
        have F9 := F8.row_ (g := g9) (by omega) (u8s z).toArray
        replace U3 := U3.grown (grown_setRow s8 g9 (u8s z).toArray) (by simp; omega)
        replace U4 := U4.grown (grown_setRow s8 g9 (u8s z).toArray) (by simp; omega)
        replace U5 := U5.grown (grown_setRow s8 g9 (u8s z).toArray) (by simp; omega)
        replace D7 := D7.grown (grown_setRow s8 g9 (u8s z).toArray) (by simp; omega)
        replace D8 := D8.grown (grown_setRow s8 g9 (u8s z).toArray) (by simp; omega)
        replace D9 : Blk (s8.setRow g9 (u8s z).toArray) g9 26 (u8s z) := D9.row (u8s z)
        generalize s8.setRow g9 (u8s z).toArray = s9 at *
        refine k_done (by kernel_rfl) (hR.out _ _ ⟨rfl, g7, g8, g9, H.sub ⟨rfl, rfl, rfl, rfl, rfl, rfl, trivial⟩, U3, U4, U5, D7, D8, D9, EW.tr F9⟩)
      · skip
        clear H a; intro a H
        have D9 := Blk.new v0 26 (u8s (List.replicate 32 0))
        have EV1 := EV0.al (.cells (u8s (List.replicate 32 0)).toArray 26)
        replace U3 := U3.alloc (.cells (u8s (List.replicate 32 0)).toArray 26)
        replace U4 := U4.alloc (.cells (u8s (List.replicate 32 0)).toArray 26)
        replace U5 := U5.alloc (.cells (u8s (List.replicate 32 0)).toArray 26)
        replace D7 := D7.alloc (.cells (u8s (List.replicate 32 0)).toArray 26)
        have hz1 := EV0.sz
        obtain ⟨g9, hg9⟩ : ∃ g, g = v0.heap.size := ⟨_, rfl⟩
        rw [← hg9] at H D9
        have hl9 := D9.lt
        generalize hv1 : v0.alloc (.cells (u8s (List.replicate 32 0)).toArray 26) = v1 at *
        have hne35 : g7 ≠ g9 := by omega
        replace hl7 : g7 < v1.heap.size := D7.lt
        refine k_op 4 H rfl (by kernel_rfl) (wanted_none rfl) rfl (by decide) (x_alloc H rfl (al_new (z26 _))) (EV1.al (.cells (u8s (List.replicate 32 0)).toArray 26)) ?_
        clear H a; intro a H
        have D8 := Blk.new v1 26 (u8s (List.replicate 32 0))
        have EV2 := EV1.al (.cells (u8s (List.replicate 32 0)).toArray 26)
        replace U3 := U3.alloc (.cells (u8s (List.replicate 32 0)).toArray 26)
        replace U4 := U4.alloc (.cells (u8s (List.replicate 32 0)).toArray 26)
        replace U5 := U5.alloc (.cells (u8s (List.replicate 32 0)).toArray 26)
        replace D7 := D7.alloc (.cells (u8s (List.replicate 32 0)).toArray 26)
        replace D9 := D9.alloc (.cells (u8s (List.replicate 32 0)).toArray 26)
        have hz2 := EV1.sz
        obtain ⟨g8, hg8⟩ : ∃ g, g = v1.heap.size := ⟨_, rfl⟩
        rw [← hg8] at H D8
        have hl8 := D8.lt
        generalize hv2 : v1.alloc (.cells (u8s (List.replicate 32 0)).toArray 26) = v2 at *
        have hne34 : g7 ≠ g8 := by omega
        have hne54 : g9 ≠ g8 := by omega
        replace hl7 : g7 < v2.heap.size := D7.lt
        replace hl9 : g9 < v2.heap.size := D9.lt
        refine k_st 6 H rfl (by kernel_rfl) (wanted_none rfl) rfl (x_store H rfl rfl rfl (st_row D7 (by show _ = some (u8s x).toArray.size; rw [size_d x hx]; kernel_rfl) (by show _ = (u8s x).toArray.size; rw [size_d x hx]; rfl) (one_u8 _))) (EV2.row_ (g := g7) (by omega) (u8s x).toArray) ?_
        have F7 := EV2.row_ (g := g7) (by omega) (u8s x).toArray
        replace U3 := U3.grown (grown_setRow v2 g7 (u8s x).toArray) (by simp; omega)
        replace U4 := U4.grown (grown_setRow v2 g7 (u8s x).toArray) (by simp; omega)
        replace U5 := U5.grown (grown_setRow v2 g7 (u8s x).toArray) (by simp; omega)
        replace D8 := D8.grown (grown_setRow v2 g7 (u8s x).toArray) (by simp; omega)
        replace D9 := D9.grown (grown_setRow v2 g7 (u8s x).toArray) (by simp; omega)
        replace D7 : Blk (v2.setRow g7 (u8s x).toArray) g7 26 (u8s x) := D7.row (u8s x)
        generalize v2.setRow g7 (u8s x).toArray = s7 at *
        refine k_st 7 H rfl (by kernel_rfl) (wanted_none rfl) rfl (x_store H rfl rfl rfl (st_row D8 (by show _ = some (u8s y).toArray.size; rw [size_d y hy]; kernel_rfl) (by show _ = (u8s y).toArray.size; rw [size_d y hy]; rfl) (one_u8 _))) (F7.row_ (g := g8) (by omega) (u8s y).toArray) ?_
        have F8 := F7.row_ (g := g8) (by omega) (u8s y).toArray
        replace U3 := U3.grown (grown_setRow s7 g8 (u8s y).toArray) (by simp; omega)
        replace U4 := U4.grown (grown_setRow s7 g8 (u8s y).toArray) (by simp; omega)
        replace U5 := U5.grown (grown_setRow s7 g8 (u8s y).toArray) (by simp; omega)
        replace D7 := D7.grown (grown_setRow s7 g8 (u8s y).toArray) (by simp; omega)
        replace D9 := D9.grown (grown_setRow s7 g8 (u8s y).toArray) (by simp; omega)
        replace D8 : Blk (s7.setRow g8 (u8s y).toArray) g8 26 (u8s y) := D8.row (u8s y)
        generalize s7.setRow g8 (u8s y).toArray = s8 at *
        refine k_st 8 H rfl (by kernel_rfl) (wanted_none rfl) rfl (x_store H rfl rfl rfl (st_row D9 (by show _ = some (u8s z).toArray.size; rw [size_d z hz]; kernel_rfl) (by show _ = (u8s z).toArray.size; rw [size_d z hz]; rfl) (one_u8 _))) (F8.row_ (g := g9) (by omega) (u8s z).toArray) ?_
        have F9 := F8.row_ (g := g9) (by omega) (u8s z).toArray
        replace U3 := U3.grown (grown_setRow s8 g9 (u8s z).toArray) (by simp; omega)
        replace U4 := U4.grown (grown_setRow s8 g9 (u8s z).toArray) (by simp; omega)
        replace U5 := U5.grown (grown_setRow s8 g9 (u8s z).toArray) (by simp; omega)
        replace D7 := D7.grown (grown_setRow s8 g9 (u8s z).toArray) (by simp; omega)
        replace D8 := D8.grown (grown_setRow s8 g9 (u8s z).toArray) (by simp; omega)
        replace D9 : Blk (s8.setRow g9 (u8s z).toArray) g9 26 (u8s z) := D9.row (u8s z)
        generalize s8.setRow g9 (u8s z).toArray = s9 at *
        refine k_done (by kernel_rfl) (hR.out _ _ ⟨rfl, g7, g8, g9, H.sub ⟨rfl, rfl, rfl, rfl, rfl, rfl, trivial⟩, U3, U4, U5, D7, D8, D9, EW.tr F9⟩)
    · skip
      clear H a; intro a H
      have D8 := Blk.new w0 26 (u8s (List.replicate 32 0))
      have EV0 := EV.al (.cells (u8s (List.replicate 32 0)).toArray 26)
      replace U3 := U3.alloc (.cells (u8s (List.replicate 32 0)).toArray 26)
      replace U4 := U4.alloc (.cells (u8s (List.replicate 32 0)).toArray 26)
      replace U5 := U5.alloc (.cells (u8s (List.replicate 32 0)).toArray 26)
      have hz0 := EV.sz
      obtain ⟨g8, hg8⟩ : ∃ g, g = w0.heap.size := ⟨_, rfl⟩
      rw [← hg8] at H D8
      have hl8 := D8.lt
      generalize hv0 : w0.alloc (.cells (u8s (List.replicate 32 0)).toArray 26) = v0 at *
      refine k_two 3 5 H (by kernel_rfl) rfl (wanted_none rfl) rfl (by decide) (x_alloc H rfl (al_new (z26 _))) (EV0.al (.cells (u8s (List.replicate 32 0)).toArray 26)) rfl (wanted_none rfl) rfl (by decide) (x_alloc H rfl (al_new (z26 _))) (EV0.al (.cells (u8s (List.replicate 32 0)).toArray 26)) ?_ ?_
      · skip
        clear H a; intro a H
        have D7 := Blk.new v0 26 (u8s (List.replicate 32 0))
        have EV1 := EV0.al (.cells (u8s (List.replicate 32 0)).toArray 26)
        replace U3 := U3.alloc (.cells (u8s (List.replicate 32 0)).toArray 26)
        replace U4 := U4.alloc (.cells (u8s (List.replicate 32 0)).toArray 26)
        replace U5 := U5.alloc (.cells (u8s (List.replicate 32 0)).toArray 26)
        replace D8 := D8.alloc (.cells (u8s (List.replicate 32 0)).toArray 26)
        have hz1 := EV0.sz
        obtain ⟨g7, hg7⟩ : ∃ g, g = v0.heap.size := ⟨_, rfl⟩
        rw [← hg7] at H D7
        have hl7 := D7.lt
        generalize hv1 : v0.alloc (.cells (u8s (List.replicate 32 0)).toArray 26) = v1 at *
        have hne43 : g8 ≠ g7 := by omega
        replace hl8 : g8 < v1.heap.size := D8.lt
        refine k_op 5 H rfl (by kernel_rfl) (wanted_none rfl) rfl (by decide) (x_alloc H rfl (al_new (z26 _))) (EV1.al (.cells (u8s (List.replicate 32 0)).toArray 26)) ?_
        clear H a; intro a H
        have D9 := Blk.new v1 26 (u8s (List.replicate 32 0))
        have EV2 := EV1.al (.cells (u8s (List.replicate 32 0)).toArray 26)
        replace U3 := U3.alloc (.cells (u8s (List.replicate 32 0)).toArray 26)
        replace U4 := U4.alloc (.cells (u8s (List.replicate 32 0)).toArray 26)
        replace U5 := U5.alloc (.cells (u8s (List.replicate 32 0)).toArray 26)
        replace D8 := D8.alloc (.cells (u8s (List.replicate 32 0)).toArray 26)
        replace D7 := D7.alloc (.cells (u8s (List.replicate 32 0)).toArray 26)
        have hz2 := EV1.sz
        obtain ⟨g9, hg9⟩ : ∃ g, g = v1.heap.size := ⟨_, rfl⟩
        rw [← hg9] at H D9
        have hl9 := D9.lt
        generalize hv2 : v1.alloc (.cells (u8s (List.replicate 32 0)).toArray 26) = v2 at *
        have hne45 : g8 ≠ g9 := by omega
        have hne35 : g7 ≠ g9 := by omega
        replace hl8 : g8 < v2.heap.size := D8.lt
        replace hl7 : g7 < v2.heap.size := D7.lt
        refine k_st 6 H rfl (by kernel_rfl) (wanted_none rfl) rfl (x_store H rfl rfl rfl (st_row D7 (by show _ = some (u8s x).toArray.size; rw [size_d x hx]; kernel_rfl) (by show _ = (u8s x).toArray.size; rw [size_d x hx]; rfl) (one_u8 _))) (EV2.row_ (g := g7) (by omega) (u8s x).toArray) ?_
        have F7 := EV2.row_ (g := g7) (by omega) (u8s x).toArray
        replace U3 := U3.grown (grown_setRow v2 g7 (u8s x).toArray) (by simp; omega)
        replace U4 := U4.grown (grown_setRow v2 g7 (u8s x).toArray) (by simp; omega)
        replace U5 := U5.grown (grown_setRow v2 g7 (u8s x).toArray) (by simp; omega)
        replace D8 := D8.grown (grown_setRow v2 g7 (u8s x).toArray) (by simp; omega)
        replace D9 := D9.grown (grown_setRow v2 g7 (u8s x).toArray) (by simp; omega)
        replace D7 : Blk (v2.setRow g7 (u8s x).toArray) g7 26 (u8s x) := D7.row (u8s x)
        generalize v2.setRow g7 (u8s x).toArray = s7 at *
        refine k_st 7 H rfl (by kernel_rfl) (wanted_none rfl) rfl (x_store H rfl rfl rfl (st_row D8 (by show _ = some (u8s y).toArray.size; rw [size_d y hy]; kernel_rfl) (by show _ = (u8s y).toArray.size; rw [size_d y hy]; rfl) (one_u8 _))) (F7.row_ (g := g8) (by omega) (u8s y).toArray) ?_
        have F8 := F7.row_ (g := g8) (by omega) (u8s y).toArray
        replace U3 := U3.grown (grown_setRow s7 g8 (u8s y).toArray) (by simp; omega)
        replace U4 := U4.grown (grown_setRow s7 g8 (u8s y).toArray) (by simp; omega)
        replace U5 := U5.grown (grown_setRow s7 g8 (u8s y).toArray) (by simp; omega)
        replace D7 := D7.grown (grown_setRow s7 g8 (u8s y).toArray) (by simp; omega)
        replace D9 := D9.grown (grown_setRow s7 g8 (u8s y).toArray) (by simp; omega)
        replace D8 : Blk (s7.setRow g8 (u8s y).toArray) g8 26 (u8s y) := D8.row (u8s y)
        generalize s7.setRow g8 (u8s y).toArray = s8 at *
        refine k_st 8 H rfl (by kernel_rfl) (wanted_none rfl) rfl (x_store H rfl rfl rfl (st_row D9 (by show _ = some (u8s z).toArray.size; rw [size_d z hz]; kernel_rfl) (by show _ = (u8s z).toArray.size; rw [size_d z hz]; rfl) (one_u8 _))) (F8.row_ (g := g9) (by omega) (u8s z).toArray) ?_
        have F9 := F8.row_ (g := g9) (by omega) (u8s z).toArray
        replace U3 := U3.grown (grown_setRow s8 g9 (u8s z).toArray) (by simp; omega)
        replace U4 := U4.grown (grown_setRow s8 g9 (u8s z).toArray) (by simp; omega)
        replace U5 := U5.grown (grown_setRow s8 g9 (u8s z).toArray) (by simp; omega)
        replace D7 := D7.grown (grown_setRow s8 g9 (u8s z).toArray) (by simp; omega)
        replace D8 := D8.grown (grown_setRow s8 g9 (u8s z).toArray) (by simp; omega)
        replace D9 : Blk (s8.setRow g9 (u8s z).toArray) g9 26 (u8s z) := D9.row (u8s z)
        generalize s8.setRow g9 (u8s z).toArray = s9 at *
        refine k_done (by kernel_rfl) (hR.out _ _ ⟨rfl, g7, g8, g9, H.sub ⟨rfl, rfl, rfl, rfl, rfl, rfl, trivial⟩, U3, U4, U5, D7, D8, D9, EW.tr F9⟩)
      · skip
        clear H a; intro a H
        have D9 := Blk.new v0 26 (u8s (List.replicate 32 0))
        have EV1 := EV0.al (.cells (u8s (List.replicate 32 0)).toArray 26)
        replace U3 := U3.alloc (.cells (u8s (List.replicate 32 0)).toArray 26)
        replace U4 := U4.alloc (.cells (u8s (List.replicate 32 0)).toArray 26)
        replace U5 := U5.alloc (.cells (u8s (List.replicate 32 0)).toArray 26)
        replace D8 := D8.alloc (.cells (u8s (List.replicate 32 0)).toArray 26)
        have hz1 := EV0.sz
        obtain ⟨g9, hg9⟩ : ∃ g, g = v0.heap.size := ⟨_, rfl⟩
        rw [← hg9] at H D9
        have hl9 := D9.lt
        generalize hv1 : v0.alloc (.cells (u8s (List.replicate 32 0)).toArray 26) = v1 at *
        have hne45 : g8 ≠ g9 := by omega
        replace hl8 : g8 < v1.heap.size := D8.lt
        refine k_op 3 H rfl (by kernel_rfl) (wanted_none rfl) rfl (by decide) (x_alloc H rfl (al_new (z26 _))) (EV1.al (.cells (u8s (List.replicate 32 0)).toArray 26)) ?_
        clear H a; intro a H
        have D7 := Blk.new v1 26 (u8s (List.replicate 32 0))
        have EV2 := EV1.al (.cells (u8s (List.replicate 32 0)).toArray 26)
        replace U3 := U3.alloc (.cells (u8s (List.replicate 32 0)).toArray 26)
        replace U4 := U4.alloc (.cells (u8s (List.replicate 32 0)).toArray 26)
        replace U5 := U5.alloc (.cells (u8s (List.replicate 32 0)).toArray 26)
        replace D8 := D8.alloc (.cells (u8s (List.replicate 32 0)).toArray 26)
        replace D9 := D9.alloc (.cells (u8s (List.replicate 32 0)).toArray 26)
        have hz2 := EV1.sz
        obtain ⟨g7, hg7⟩ : ∃ g, g = v1.heap.size := ⟨_, rfl⟩
        rw [← hg7] at H D7
        have hl7 := D7.lt
        generalize hv2 : v1.alloc (.cells (u8s (List.replicate 32 0)).toArray 26) = v2 at *
        have hne43 : g8 ≠ g7 := by omega
        have hne53 : g9 ≠ g7 := by omega
        replace hl8 : g8 < v2.heap.size := D8.lt
        replace hl9 : g9 < v2.heap.size := D9.lt
        refine k_st 6 H rfl (by kernel_rfl) (wanted_none rfl) rfl (x_store H rfl rfl rfl (st_row D7 (by show _ = some (u8s x).toArray.size; rw [size_d x hx]; kernel_rfl) (by show _ = (u8s x).toArray.size; rw [size_d x hx]; rfl) (one_u8 _))) (EV2.row_ (g := g7) (by omega) (u8s x).toArray) ?_
        have F7 := EV2.row_ (g := g7) (by omega) (u8s x).toArray
        replace U3 := U3.grown (grown_setRow v2 g7 (u8s x).toArray) (by simp; omega)
        replace U4 := U4.grown (grown_setRow v2 g7 (u8s x).toArray) (by simp; omega)
        replace U5 := U5.grown (grown_setRow v2 g7 (u8s x).toArray) (by simp; omega)
        replace D8 := D8.grown (grown_setRow v2 g7 (u8s x).toArray) (by simp; omega)
        replace D9 := D9.grown (grown_setRow v2 g7 (u8s x).toArray) (by simp; omega)
        replace D7 : Blk (v2.setRow g7 (u8s x).toArray) g7 26 (u8s x) := D7.row (u8s x)
        generalize v2.setRow g7 (u8s x).toArray = s7 at *
        refine k_st 7 H rfl (by kernel_rfl) (wanted_none rfl) rfl (x_store H rfl rfl rfl (st_row D8 (by show _ = some (u8s y).toArray.size; rw [size_d y hy]; kernel_rfl) (by show _ = (u8s y).toArray.size; rw [size_d y hy]; rfl) (one_u8 _))) (F7.row_ (g := g8) (by omega) (u8s y).toArray) ?_
        have F8 := F7.row_ (g := g8) (by omega) (u8s y).toArray
        replace U3 := U3.grown (grown_setRow s7 g8 (u8s y).toArray) (by simp; omega)
        replace U4 := U4.grown (grown_setRow s7 g8 (u8s y).toArray) (by simp; omega)
        replace U5 := U5.grown (grown_setRow s7 g8 (u8s y).toArray) (by simp; omega)
        replace D7 := D7.grown (grown_setRow s7 g8 (u8s y).toArray) (by simp; omega)
        replace D9 := D9.grown (grown_setRow s7 g8 (u8s y).toArray) (by simp; omega)
        replace D8 : Blk (s7.setRow g8 (u8s y).toArray) g8 26 (u8s y) := D8.row (u8s y)
        generalize s7.setRow g8 (u8s y).toArray = s8 at *
        refine k_st 8 H rfl (by kernel_rfl) (wanted_none rfl) rfl (x_store H rfl rfl rfl (st_row D9 (by show _ = some (u8s z).toArray.size; rw [size_d z hz]; kernel_rfl) (by show _ = (u8s z).toArray.size; rw [size_d z hz]; rfl) (one_u8 _))) (F8.row_ (g := g9) (by omega) (u8s z).toArray) ?_
        have F9 := F8.row_ (g := g9) (by omega) (u8s z).toArray
        replace U3 := U3.grown (grown_setRow s8 g9 (u8s z).toArray) (by simp; omega)
        replace U4 := U4.grown (grown_setRow s8 g9 (u8s z).toArray) (by simp; omega)
        replace U5 := U5.grown (grown_setRow s8 g9 (u8s z).toArray) (by simp; omega)
        replace D7 := D7.grown (grown_setRow s8 g9 (u8s z).toArray) (by simp; omega)
        replace D8 := D8.grown (grown_setRow s8 g9 (u8s z).toArray) (by simp; omega)
        replace D9 : Blk (s8.setRow g9 (u8s z).toArray) g9 26 (u8s z) := D9.row (u8s z)
        generalize s8.setRow g9 (u8s z).toArray = s9 at *
        refine k_done (by kernel_rfl) (hR.out _ _ ⟨rfl, g7, g8, g9, H.sub ⟨rfl, rfl, rfl, rfl, rfl, rfl, trivial⟩, U3, U4, U5, D7, D8, D9, EW.tr F9⟩)
    · skip
      clear H a; intro a H
      have D9 := Blk.new w0 26 (u8s (List.replicate 32 0))
      have EV0 := EV.al (.cells (u8s (List.replicate 32 0)).toArray 26)
      replace U3 := U3.alloc (.cells (u8s (List.replicate 32 0)).toArray 26)
      replace U4 := U4.alloc (.cells (u8s (List.replicate 32 0)).toArray 26)
      replace U5 := U5.alloc (.cells (u8s (List.replicate 32 0)).toArray 26)
      have hz0 := EV.sz
      obtain ⟨g9, hg9⟩ : ∃ g, g = w0.heap.size := ⟨_, rfl⟩
      rw [← hg9] at H D9
      have hl9 := D9.lt
      generalize hv0 : w0.alloc (.cells (u8s (List.replicate 32 0)).toArray 26) = v0 at *
      refine k_two 3 4 H (by kernel_rfl) rfl (wanted_none rfl) rfl (by decide) (x_alloc H rfl (al_new (z26 _))) (EV0.al (.cells (u8s (List.replicate 32 0)).toArray 26)) rfl (wanted_none rfl) rfl (by decide) (x_alloc H rfl (al_new (z26 _))) (EV0.al (.cells (u8s (List.replicate 32 0)).toArray 26)) ?_ ?_
      · skip
        clear H a; intro a H
        have D7 := Blk.new v0 26 (u8s (List.replicate 32 0))
        have EV1 := EV0.al (.cells (u8s (List.replicate 32 0)).toArray 26)
        replace U3 := U3.alloc (.cells (u8s (List.replicate 32 0)).toArray 26)
        replace U4 := U4.alloc (.cells (u8s (List.replicate 32 0)).toArray 26)
        replace U5 := U5.alloc (.cells (u8s (List.replicate 32 0)).toArray 26)
        replace D9 := D9.alloc (.cells (u8s (List.replicate 32 0)).toArray 26)
        have hz1 := EV0.sz
        obtain ⟨g7, hg7⟩ : ∃ g, g = v0.heap.size := ⟨_, rfl⟩
        rw [← hg7] at H D7
        have hl7 := D7.lt
        generalize hv1 : v0.alloc (.cells (u8s (List.replicate 32 0)).toArray 26) = v1 at *
        have hne53 : g9 ≠ g7 := by omega
        replace hl9 : g9 < v1.heap.size := D9.lt
        refine k_op 4 H rfl (by kernel_rfl) (wanted_none rfl) rfl (by decide) (x_alloc H rfl (al_new (z26 _))) (EV1.al (.cells (u8s (List.replicate 32 0)).toArray 26)) ?_
        clear H a; intro a H
        have D8 := Blk.new v1 26 (u8s (List.replicate 32 0))
        have EV2 := EV1.al (.cells (u8s (List.replicate 32 0)).toArray 26)
        replace U3 := U3.alloc (.cells (u8s (List.replicate 32 0)).toArray 26)
        replace U4 := U4.alloc (.cells (u8s (List.replicate 32 0)).toArray 26)
        replace U5 := U5.alloc (.cells (u8s (List.replicate 32 0)).toArray 26)
        replace D9 := D9.alloc (.cells (u8s (List.replicate 32 0)).toArray 26)
        replace D7 := D7.alloc (.cells (u8s (List.replicate 32 0)).toArray 26)
        have hz2 := EV1.sz
        obtain ⟨g8, hg8⟩ : ∃ g, g = v1.heap.size := ⟨_, rfl⟩
        rw [← hg8] at H D8
        have hl8 := D8.lt
        generalize hv2 : v1.alloc (.cells (u8s (List.replicate 32 0)).toArray 26) = v2 at *
        have hne54 : g9 ≠ g8 := by omega
        have hne34 : g7 ≠ g8 := by omega
        replace hl9 : g9 < v2.heap.size := D9.lt
        replace hl7 : g7 < v2.heap.size := D7.lt
        refine k_st 6 H rfl (by kernel_rfl) (wanted_none rfl) rfl (x_store H rfl rfl rfl (st_row D7 (by show _ = some (u8s x).toArray.size; rw [size_d x hx]; kernel_rfl) (by show _ = (u8s x).toArray.size; rw [size_d x hx]; rfl) (one_u8 _))) (EV2.row_ (g := g7) (by omega) (u8s x).toArray) ?_
        have F7 := EV2.row_ (g := g7) (by omega) (u8s x).toArray
        replace U3 := U3.grown (grown_setRow v2 g7 (u8s x).toArray) (by simp; omega)
        replace U4 := U4.grown (grown_setRow v2 g7 (u8s x).toArray) (by simp; omega)
        replace U5 := U5.grown (grown_setRow v2 g7 (u8s x).toArray) (by simp; omega)
        replace D8 := D8.grown (grown_setRow v2 g7 (u8s x).toArray) (by simp; omega)
        replace D9 := D9.grown (grown_setRow v2 g7 (u8s x).toArray) (by simp; omega)
        replace D7 : Blk (v2.setRow g7 (u8s x).toArray) g7 26 (u8s x) := D7.row (u8s x)
        generalize v2.setRow g7 (u8s x).toArray = s7 at *
        refine k_st 7 H rfl (by kernel_rfl) (wanted_none rfl) rfl (x_store H rfl rfl rfl (st_row D8 (by show _ = some (u8s y).toArray.size; rw [size_d y hy]; kernel_rfl) (by show _ = (u8s y).toArray.size; rw [size_d y hy]; rfl) (one_u8 _))) (F7.row_ (g := g8) (by omega) (u8s y).toArray) ?_
        have F8 := F7.row_ (g := g8) (by omega) (u8s y).toArray
        replace U3 := U3.grown (grown_setRow s7 g8 (u8s y).toArray) (by simp; omega)
        replace U4 := U4.grown (grown_setRow s7 g8 (u8s y).toArray) (by simp; omega)
        replace U5 := U5.grown (grown_setRow s7 g8 (u8s y).toArray) (by simp; omega)
        replace D7 := D7.grown (grown_setRow s7 g8 (u8s y).toArray) (by simp; omega)
        replace D9 := D9.grown (grown_setRow s7 g8 (u8s y).toArray) (by simp; omega)
        replace D8 : Blk (s7.setRow g8 (u8s y).toArray) g8 26 (u8s y) := D8.row (u8s y)
        generalize s7.setRow g8 (u8s y).toArray = s8 at *
        refine k_st 8 H rfl (by kernel_rfl) (wanted_none rfl) rfl (x_store H rfl rfl rfl (st_row D9 (by show _ = some (u8s z).toArray.size; rw [size_d z hz]; kernel_rfl) (by show _ = (u8s z).toArray.size; rw [size_d z hz]; rfl) (one_u8 _))) (F8.row_ (g := g9) (by omega) (u8s z).toArray) ?_
        have F9 := F8.row_ (g := g9) (by omega) (u8s z).toArray
        replace U3 := U3.grown (grown_setRow s8 g9 (u8s z).toArray) (by simp; omega)
        replace U4 := U4.grown (grown_setRow s8 g9 (u8s z).toArray) (by simp; omega)
        replace U5 := U5.grown (grown_setRow s8 g9 (u8s z).toArray) (by simp; omega)
        replace D7 := D7.grown (grown_setRow s8 g9 (u8s z).toArray) (by simp; omega)
        replace D8 := D8.grown (grown_setRow s8 g9 (u8s z).toArray) (by simp; omega)
        replace D9 : Blk (s8.setRow g9 (u8s z).toArray) g9 26 (u8s z) := D9.row (u8s z)
        generalize s8.setRow g9 (u8s z).toArray = s9 at *
        refine k_done (by kernel_rfl) (hR.out _ _ ⟨rfl, g7, g8, g9, H.sub ⟨rfl, rfl, rfl, rfl, rfl, rfl, trivial⟩, U3, U4, U5, D7, D8, D9, EW.tr F9⟩)
      · skip
        clear H a; intro a H
        have D8 := Blk.new v0 26 (u8s (List.replicate 32 0))
        have EV1 := EV0.al (.cells (u8s (List.replicate 32 0)).toArray 26)
        replace U3 := U3.alloc (.cells (u8s (List.replicate 32 0)).toArray 26)
        replace U4 := U4.alloc (.cells (u8s (List.replicate 32 0)).toArray 26)
        replace U5 := U5.alloc (.cells (u8s (List.replicate 32 0)).toArray 26)
        replace D9 := D9.alloc (.cells (u8s (List.replicate 32 0)).toArray 26)
        have hz1 := EV0.sz
        obtain ⟨g8, hg8⟩ : ∃ g, g = v0.heap.size := ⟨_, rfl⟩
        rw [← hg8] at H D8
        have hl8 := D8.lt
        generalize hv1 : v0.alloc (.cells (u8s (List.replicate 32 0)).toArray 26) = v1 at *
        have hne54 : g9 ≠ g8 := by omega
        replace hl9 : g9 < v1.heap.size := D9.lt
        refine k_op 3 H rfl (by kernel_rfl) (wanted_none rfl) rfl (by decide) (x_alloc H rfl (al_new (z26 _))) (EV1.al (.cells (u8s (List.replicate 32 0)).toArray 26)) ?_
        clear H a; intro a H
        have D7 := Blk.new v1 26 (u8s (List.replicate 32 0))
        have EV2 := EV1.al (.cells (u8s (List.replicate 32 0)).toArray 26)
        replace U3 := U3.alloc (.cells (u8s (List.replicate 32 0)).toArray 26)
        replace U4 := U4.alloc (.cells (u8s (List.replicate 32 0)).toArray 26)
        replace U5 := U5.alloc (.cells (u8s (List.replicate 32 0)).toArray 26)
        replace D9 := D9.alloc (.cells (u8s (List.replicate 32 0)).toArray 26)
        replace D8 := D8.alloc (.cells (u8s (List.replicate 32 0)).toArray 26)
        have hz2 := EV1.sz
        obtain ⟨g7, hg7⟩ : ∃ g, g = v1.heap.size := ⟨_, rfl⟩
        rw [← hg7] at H D7
        have hl7 := D7.lt
        generalize hv2 : v1.alloc (.cells (u8s (List.replicate 32 0)).toArray 26) = v2 at *
        have hne53 : g9 ≠ g7 := by omega
        have hne43 : g8 ≠ g7 := by omega
        replace hl9 : g9 < v2.heap.size := D9.lt
        replace hl8 : g8 < v2.heap.size := D8.lt
        refine k_st 6 H rfl (by kernel_rfl) (wanted_none rfl) rfl (x_store H rfl rfl rfl (st_row D7 (by show _ = some (u8s x).toArray.size; rw [size_d x hx]; kernel_rfl) (by show _ = (u8s x).toArray.size; rw [size_d x hx]; rfl) (one_u8 _))) (EV2.row_ (g := g7) (by omega) (u8s x).toArray) ?_
        have F7 := EV2.row_ (g := g7) (by omega) (u8s x).toArray
        replace U3 := U3.grown (grown_setRow v2 g7 (u8s x).toArray) (by simp; omega)
        replace U4 := U4.grown (grown_setRow v2 g7 (u8s x).toArray) (by simp; omega)
        replace U5 := U5.grown (grown_setRow v2 g7 (u8s x).toArray) (by simp; omega)
        replace D8 := D8.grown (grown_setRow v2 g7 (u8s x).toArray) (by simp; omega)
        replace D9 := D9.grown (grown_setRow v2 g7 (u8s x).toArray) (by simp; omega)
        replace D7 : Blk (v2.setRow g7 (u8s x).toArray) g7 26 (u8s x) := D7.row (u8s x)
        generalize v2.setRow g7 (u8s x).toArray = s7 at *
        refine k_st 7 H rfl (by kernel_rfl) (wanted_none rfl) rfl (x_store H rfl rfl rfl (st_row D8 (by show _ = some (u8s y).toArray.size; rw [size_d y hy]; kernel_rfl) (by show _ = (u8s y).toArray.size; rw [size_d y hy]; rfl) (one_u8 _))) (F7.row_ (g := g8) (by omega) (u8s y).toArray) ?_
        have F8 := F7.row_ (g := g8) (by omega) (u8s y).toArray
        replace U3 := U3.grown (grown_setRow s7 g8 (u8s y).toArray) (by simp; omega)
        replace U4 := U4.grown (grown_setRow s7 g8 (u8s y).toArray) (by simp; omega)
        replace U5 := U5.grown (grown_setRow s7 g8 (u8s y).toArray) (by simp; omega)
        replace D7 := D7.grown (grown_setRow s7 g8 (u8s y).toArray) (by simp; omega)
        replace D9 := D9.grown (grown_setRow s7 g8 (u8s y).toArray) (by simp; omega)
        replace D8 : Blk (s7.setRow g8 (u8s y).toArray) g8 26 (u8s y) := D8.row (u8s y)
        generalize s7.setRow g8 (u8s y).toArray = s8 at *
        refine k_st 8 H rfl (by kernel_rfl) (wanted_none rfl) rfl (x_store H rfl rfl rfl (st_row D9 (by show _ = some (u8s z).toArray.size; rw [size_d z hz]; kernel_rfl) (by show _ = (u8s z).toArray.size; rw [size_d z hz]; rfl) (one_u8 _))) (F8.row_ (g := g9) (by omega) (u8s z).toArray) ?_
        have F9 := F8.row_ (g := g9) (by omega) (u8s z).toArray
        replace U3 := U3.grown (grown_setRow s8 g9 (u8s z).toArray) (by simp; omega)
        replace U4 := U4.grown (grown_setRow s8 g9 (u8s z).toArray) (by simp; omega)
        replace U5 := U5.grown (grown_setRow s8 g9 (u8s z).toArray) (by simp; omega)
        replace D7 := D7.grown (grown_setRow s8 g9 (u8s z).toArray) (by simp; omega)
        replace D8 := D8.grown (grown_setRow s8 g9 (u8s z).toArray) (by simp; omega)
        replace D9 : Blk (s8.setRow g9 (u8s z).toArray) g9 26 (u8s z) := D9.row (u8s z)
        generalize s8.setRow g9 (u8s z).toArray = s9 at *
        refine k_done (by kernel_rfl) (hR.out _ _ ⟨rfl, g7, g8, g9, H.sub ⟨rfl, rfl, rfl, rfl, rfl, rfl, trivial⟩, U3, U4, U5, D7, D8, D9, EW.tr F9⟩)
theorem ordersB (x y z : List UInt8) (hx : x.length = 32) (hy : y.length = 32) (hz : z.length = 32) (hc : x ≠ y) (hxy : blt x y = false) (hyx : blt y x = true) (W : World) (K0 : Kc W) (h0 : 0 < W.heap.size) :
    Calls Tryd.prog 5 #[.agg (u8s x).toArray, .agg (u8s y).toArray, .agg (u8s z).toArray] W fun e w' => e = .returned (.bool true) ∧ Ext W w' := by
  refine calls_has (args := [.agg (u8s x).toArray, .agg (u8s y).toArray, .agg (u8s z).toArray]) Tryd.func5 rfl Tryd.ntmps5 (Nat.le_of_ble_eq_true rfl) (fun a H => ?_)
  simp only [argl, Nat.reduceAdd] at H
  refine wp_seq_k (fun K1 hK1 => ?_)
  refine e_region (fun R hR => ?_)
  refine e_op H rfl rfl (by decide) (x_box H rfl rfl bx_new) ?_
  clear H a; intro a H
  have T3 := Blk.new W 25 (u8s x)
  have E3 := (Ext.refl W).al (.cells (u8s x).toArray 25)
  obtain ⟨g3, hg3⟩ : ∃ g, g = W.heap.size := ⟨_, rfl⟩
  rw [← hg3] at H T3
  have hs3 := E3.sz
  generalize W.alloc (.cells (u8s x).toArray 25) = w3 at *
  refine e_op H rfl rfl (by decide) (x_box H rfl rfl bx_new) ?_
  clear H a; intro a H
  have T4 := Blk.new w3 25 (u8s y)
  have E4 := E3.al (.cells (u8s y).toArray 25)
  replace T3 := T3.alloc (.cells (u8s y).toArray 25)
  obtain ⟨g4, hg4⟩ : ∃ g, g = w3.heap.size := ⟨_, rfl⟩
  rw [← hg4] at H T4
  have hs4 := E4.sz
  generalize w3.alloc (.cells (u8s y).toArray 25) = w4 at *
  refine e_op H rfl rfl (by decide) (x_box H rfl rfl bx_new) ?_
  clear H a; intro a H
  have T5 := Blk.new w4 25 (u8s z)
  have E5 := E4.al (.cells (u8s z).toArray 25)
  replace T3 := T3.alloc (.cells (u8s z).toArray 25)
  replace T4 := T4.alloc (.cells (u8s z).toArray 25)
  obtain ⟨g5, hg5⟩ : ∃ g, g = w4.heap.size := ⟨_, rfl⟩
  rw [← hg5] at H T5
  have hs5 := E5.sz
  generalize w4.alloc (.cells (u8s z).toArray 25) = w5 at *
  refine e_op H rfl rfl (by decide) (x_assign H rfl rfl) ?_
  clear H a; intro a H
  refine e_nil (hR.out _ _ ?_)
  clear hR R
  refine hK1 _ _ ?_
  clear hK1 K1
  refine wp_seq_k (fun K2 hK2 => ?_)
  refine wp_seq_k (fun K3 hK3 => ?_)
  refine e_region (fun R hR => ?_)
  refine e_callq H rfl rfl (by decide) rfl rfl (Tryd.call14 _) (awake_any w5 (K0.ext E5) (by omega)) ?_
  clear H a
  rintro e w1 ⟨rfl, E51⟩
  refine ⟨_, rfl, fun a H => ?_⟩
  replace T3 := T3.ext E51
  replace T4 := T4.ext E51
  replace T5 := T5.ext E51
  have E1 := E5.tr E51
  clear E3 E4 E51 E5
  refine e_op H rfl rfl (by decide) (x_un H rfl rfl (u_not (c := false) (rfl))) ?_
  clear H a; intro a H
  refine e_nil (hR.out _ _ ?_)
  clear hR R
  refine hK3 _ _ ?_
  clear hK3 K3
  refine c_false H rfl ?_
  refine wp_skip ?_
  refine hK2 _ _ ?_
  clear hK2 K2
  refine wp_seq_k (fun K4 hK4 => ?_)
  refine Code.wp_mono (Q := fun e a w => e = Exit.normal ∧ ∃ g7 g8 g9, Has a 59 [(3, .pointer (some ⟨g3, 0, none⟩)), (4, .pointer (some ⟨g4, 0, none⟩)), (5, .pointer (some ⟨g5, 0, none⟩)), (7, .pointer (some ⟨g7, 0, none⟩)), (8, .pointer (some ⟨g8, 0, none⟩)), (9, .pointer (some ⟨g9, 0, none⟩))] ∧ Blk w g3 25 (u8s x) ∧ Blk w g4 25 (u8s y) ∧ Blk w g5 25 (u8s z) ∧ Blk w g7 26 (u8s x) ∧ Blk w g8 26 (u8s y) ∧ Blk w g9 26 (u8s z) ∧ Ext W w) (fun e a w hM => ?_) ?_
  · skip
    clear H T3 T4 T5 E1
    obtain ⟨rfl, g7, g8, g9, H, T3, T4, T5, T7, T8, T9, E1⟩ := hM
    refine hK4 _ _ ?_
    clear hK4 K4
    refine wp_seq_k (fun K5 hK5 => ?_)
    refine h_start (by kernel_rfl) (fun R hR => ?_)
    replace T3 : Blk w.drew g3 25 (u8s x) := T3
    replace T4 : Blk w.drew g4 25 (u8s y) := T4
    replace T5 : Blk w.drew g5 25 (u8s z) := T5
    replace T7 : Blk w.drew g7 26 (u8s x) := T7
    replace T8 : Blk w.drew g8 26 (u8s y) := T8
    replace T9 : Blk w.drew g9 26 (u8s z) := T9
    replace E1 := E1.dr
    generalize w.drew = w at *
    refine h_take 0 H rfl rfl rfl (by decide) (by kernel_rfl) (by kernel_rfl) (by kernel_rfl) (fun w' hSw => (x_load H rfl rfl (l_row (T7.ext hSw) Tryd.underlying26 rfl (by rw [size_d x hx]; kernel_rfl)))) ?_
    clear H a; intro a H
    refine h_take 1 H rfl rfl rfl (by decide) (by kernel_rfl) (by kernel_rfl) (by kernel_rfl) (fun w' hSw => (x_load H rfl rfl (l_row (T8.ext hSw) Tryd.underlying26 rfl (by rw [size_d y hy]; kernel_rfl)))) ?_
    clear H a; intro a H
    refine h_take 3 H rfl rfl rfl (by decide) (by kernel_rfl) (by kernel_rfl) (by kernel_rfl) (fun w' hSw => (x_load H rfl rfl (l_row (T3.ext hSw) Tryd.underlying25 rfl (by rw [size_d x hx]; kernel_rfl)))) ?_
    clear H a; intro a H
    refine h_take 4 H rfl rfl rfl (by decide) (by kernel_rfl) (by kernel_rfl) (by kernel_rfl) (fun w' hSw => (x_load H rfl rfl (l_row (T4.ext hSw) Tryd.underlying25 rfl (by rw [size_d y hy]; kernel_rfl)))) ?_
    clear H a; intro a H
    refine h_call 2 H rfl (by kernel_rfl) (wanted_none rfl) rfl (by decide) rfl rfl (Tryd.call22 _) (less_any x y hx hy false hxy _) ?_
    clear H a
    rintro e w20 ⟨rfl, EE⟩
    refine ⟨_, rfl, EE, fun a H => ?_⟩
    replace T3 := T3.ext EE
    replace T4 := T4.ext EE
    replace T5 := T5.ext EE
    replace T7 := T7.ext EE
    replace T8 := T8.ext EE
    replace T9 := T9.ext EE
    replace E1 := E1.tr EE
    clear EE
    refine h_call 5 H rfl (by kernel_rfl) (wanted_none rfl) rfl (by decide) rfl rfl (Tryd.call23 _) (refless_any x y hx hy false hxy _) ?_
    clear H a
    rintro e w21 ⟨rfl, EE⟩
    refine ⟨_, rfl, EE, fun a H => ?_⟩
    replace T3 := T3.ext EE
    replace T4 := T4.ext EE
    replace T5 := T5.ext EE
    replace T7 := T7.ext EE
    replace T8 := T8.ext EE
    replace T9 := T9.ext EE
    replace E1 := E1.tr EE
    clear EE
    refine h_take 6 H rfl rfl rfl (by decide) (by kernel_rfl) (by kernel_rfl) (by kernel_rfl) (fun w' hSw => (x_bin H rfl rfl rfl eqg4 (eqb4 (c := true) rfl))) ?_
    clear H a; intro a H
    refine h_take 7 H rfl rfl rfl (by decide) (by kernel_rfl) (by kernel_rfl) (by kernel_rfl) (fun w' hSw => (x_move H rfl rfl)) ?_
    clear H a; intro a H
    refine h_takeg 8 H rfl (wanted_true H rfl rfl rfl rfl) rfl (by decide) (by kernel_rfl) (by kernel_rfl) (by kernel_rfl) (fun w' hSw => (x_load H rfl rfl (l_row (T7.ext hSw) Tryd.underlying26 rfl (by rw [size_d x hx]; kernel_rfl)))) ?_
    clear H a; intro a H
    refine h_takeg 9 H rfl (wanted_true H rfl rfl rfl rfl) rfl (by decide) (by kernel_rfl) (by kernel_rfl) (by kernel_rfl) (fun w' hSw => (x_load H rfl rfl (l_row (T7.ext hSw) Tryd.underlying26 rfl (by rw [size_d x hx]; kernel_rfl)))) ?_
    clear H a; intro a H
    refine h_call 10 H rfl (by kernel_rfl) (wanted_true H rfl rfl rfl rfl) rfl (by decide) rfl rfl (Tryd.call22 _) (less_any x x hx hx false (blt_irr x) _) ?_
    clear H a
    rintro e w22 ⟨rfl, EE⟩
    refine ⟨_, rfl, EE, fun a H => ?_⟩
    replace T3 := T3.ext EE
    replace T4 := T4.ext EE
    replace T5 := T5.ext EE
    replace T7 := T7.ext EE
    replace T8 := T8.ext EE
    replace T9 := T9.ext EE
    replace E1 := E1.tr EE
    clear EE
    refine h_takeg 11 H rfl (wanted_true H rfl rfl rfl rfl) rfl (by decide) (by kernel_rfl) (by kernel_rfl) (by kernel_rfl) (fun w' hSw => (x_un H rfl rfl (u_not (c := true) (rfl)))) ?_
    clear H a; intro a H
    refine h_take 12 H rfl rfl rfl (by decide) (by kernel_rfl) (by kernel_rfl) (by kernel_rfl) (fun w' hSw => (x_pickT H rfl rfl rfl)) ?_
    clear H a; intro a H
    refine h_take 13 H rfl rfl rfl (by decide) (by kernel_rfl) (by kernel_rfl) (by kernel_rfl) (fun w' hSw => (x_move H rfl rfl)) ?_
    clear H a; intro a H
    refine h_takeg 14 H rfl (wanted_true H rfl rfl rfl rfl) rfl (by decide) (by kernel_rfl) (by kernel_rfl) (by kernel_rfl) (fun w' hSw => (x_load H rfl rfl (l_row (T7.ext hSw) Tryd.underlying26 rfl (by rw [size_d x hx]; kernel_rfl)))) ?_
    clear H a; intro a H
    refine h_takeg 15 H rfl (wanted_true H rfl rfl rfl rfl) rfl (by decide) (by kernel_rfl) (by kernel_rfl) (by kernel_rfl) (fun w' hSw => (x_load H rfl rfl (l_row (T8.ext hSw) Tryd.underlying26 rfl (by rw [size_d y hy]; kernel_rfl)))) ?_
    clear H a; intro a H
    refine h_takeg 16 H rfl (wanted_true H rfl rfl rfl rfl) rfl (by decide) (by kernel_rfl) (by kernel_rfl) (by kernel_rfl) (fun w' hSw => (x_bin H rfl rfl rfl eqg26 (eql26 (c := false) hx hy (by simpa using hc)))) ?_
    clear H a; intro a H
    refine h_takeg 17 H rfl (wanted_true H rfl rfl rfl rfl) rfl (by decide) (by kernel_rfl) (by kernel_rfl) (by kernel_rfl) (fun w' hSw => (x_move H rfl rfl)) ?_
    clear H a; intro a H
    refine h_takeg 18 H rfl (wanted_true H rfl rfl rfl rfl) rfl (by decide) (by kernel_rfl) (by kernel_rfl) (by kernel_rfl) (fun w' hSw => (x_load H rfl rfl (l_row (T7.ext hSw) Tryd.underlying26 rfl (by rw [size_d x hx]; kernel_rfl)))) ?_
    clear H a; intro a H
    refine h_takeg 19 H rfl (wanted_true H rfl rfl rfl rfl) rfl (by decide) (by kernel_rfl) (by kernel_rfl) (by kernel_rfl) (fun w' hSw => (x_load H rfl rfl (l_row (T8.ext hSw) Tryd.underlying26 rfl (by rw [size_d y hy]; kernel_rfl)))) ?_
    clear H a; intro a H
    refine h_takeg 21 H rfl (wanted_true H rfl rfl rfl rfl) rfl (by decide) (by kernel_rfl) (by kernel_rfl) (by kernel_rfl) (fun w' hSw => (x_load H rfl rfl (l_row (T8.ext hSw) Tryd.underlying26 rfl (by rw [size_d y hy]; kernel_rfl)))) ?_
    clear H a; intro a H
    refine h_takeg 22 H rfl (wanted_true H rfl rfl rfl rfl) rfl (by decide) (by kernel_rfl) (by kernel_rfl) (by kernel_rfl) (fun w' hSw => (x_load H rfl rfl (l_row (T7.ext hSw) Tryd.underlying26 rfl (by rw [size_d x hx]; kernel_rfl)))) ?_
    clear H a; intro a H
    refine h_call 20 H rfl (by kernel_rfl) (wanted_true H rfl rfl rfl rfl) rfl (by decide) rfl rfl (Tryd.call22 _) (less_any x y hx hy false hxy _) ?_
    clear H a
    rintro e w23 ⟨rfl, EE⟩
    refine ⟨_, rfl, EE, fun a H => ?_⟩
    replace T3 := T3.ext EE
    replace T4 := T4.ext EE
    replace T5 := T5.ext EE
    replace T7 := T7.ext EE
    replace T8 := T8.ext EE
    replace T9 := T9.ext EE
    replace E1 := E1.tr EE
    clear EE
    refine h_call 23 H rfl (by kernel_rfl) (wanted_true H rfl rfl rfl rfl) rfl (by decide) rfl rfl (Tryd.call22 _) (less_any y x hy hx true hyx _) ?_
    clear H a
    rintro e w24 ⟨rfl, EE⟩
    refine ⟨_, rfl, EE, fun a H => ?_⟩
    replace T3 := T3.ext EE
    replace T4 := T4.ext EE
    replace T5 := T5.ext EE
    replace T7 := T7.ext EE
    replace T8 := T8.ext EE
    replace T9 := T9.ext EE
    replace E1 := E1.tr EE
    clear EE
    refine h_takeg 24 H rfl (wanted_true H rfl rfl rfl rfl) rfl (by decide) (by kernel_rfl) (by kernel_rfl) (by kernel_rfl) (fun w' hSw => (x_bin H rfl rfl rfl eqn4 (neb4 (c := true) rfl))) ?_
    clear H a; intro a H
    refine h_takeg 25 H rfl (wanted_true H rfl rfl rfl rfl) rfl (by decide) (by kernel_rfl) (by kernel_rfl) (by kernel_rfl) (fun w' hSw => (x_pickF H rfl rfl rfl)) ?_
    clear H a; intro a H
    refine h_take 26 H rfl rfl rfl (by decide) (by kernel_rfl) (by kernel_rfl) (by kernel_rfl) (fun w' hSw => (x_pickT H rfl rfl rfl)) ?_
    clear H a; intro a H
    refine h_take 27 H rfl rfl rfl (by decide) (by kernel_rfl) (by kernel_rfl) (by kernel_rfl) (fun w' hSw => (x_move H rfl rfl)) ?_
    clear H a; intro a H
    refine h_takeg 28 H rfl (wanted_true H rfl rfl rfl rfl) rfl (by decide) (by kernel_rfl) (by kernel_rfl) (by kernel_rfl) (fun w' hSw => (x_load H rfl rfl (l_row (T7.ext hSw) Tryd.underlying26 rfl (by rw [size_d x hx]; kernel_rfl)))) ?_
    clear H a; intro a H
    refine h_takeg 29 H rfl (wanted_true H rfl rfl rfl rfl) rfl (by decide) (by kernel_rfl) (by kernel_rfl) (by kernel_rfl) (fun w' hSw => (x_load H rfl rfl (l_row (T8.ext hSw) Tryd.underlying26 rfl (by rw [size_d y hy]; kernel_rfl)))) ?_
    clear H a; intro a H
    refine h_call 30 H rfl (by kernel_rfl) (wanted_true H rfl rfl rfl rfl) rfl (by decide) rfl rfl (Tryd.call22 _) (less_any x y hx hy false hxy _) ?_
    clear H a
    rintro e w25 ⟨rfl, EE⟩
    refine ⟨_, rfl, EE, fun a H => ?_⟩
    replace T3 := T3.ext EE
    replace T4 := T4.ext EE
    replace T5 := T5.ext EE
    replace T7 := T7.ext EE
    replace T8 := T8.ext EE
    replace T9 := T9.ext EE
    replace E1 := E1.tr EE
    clear EE
    refine h_takeg 31 H rfl (wanted_true H rfl rfl rfl rfl) rfl (by decide) (by kernel_rfl) (by kernel_rfl) (by kernel_rfl) (fun w' hSw => (x_un H rfl rfl (u_not (c := true) (rfl)))) ?_
    clear H a; intro a H
    refine h_takeg 32 H rfl (wanted_true H rfl rfl rfl rfl) rfl (by decide) (by kernel_rfl) (by kernel_rfl) (by kernel_rfl) (fun w' hSw => (x_move H rfl rfl)) ?_
    clear H a; intro a H
    refine h_skip 33 H rfl (wanted_false H rfl rfl rfl rfl) rfl (by decide) (by kernel_rfl) (by kernel_rfl) (by kernel_rfl) ?_
    clear H a; intro a H
    refine h_skip 34 H rfl (wanted_false H rfl rfl rfl rfl) rfl (by decide) (by kernel_rfl) (by kernel_rfl) (by kernel_rfl) ?_
    clear H a; intro a H
    refine h_skip 35 H rfl (wanted_false H rfl rfl rfl rfl) rfl (by decide) (by kernel_rfl) (by kernel_rfl) (by kernel_rfl) ?_
    clear H a; intro a H
    refine h_skip 36 H rfl (wanted_false H rfl rfl rfl rfl) rfl (by decide) (by kernel_rfl) (by kernel_rfl) (by kernel_rfl) ?_
    clear H a; intro a H
    refine h_takeg 37 H rfl (wanted_true H rfl rfl rfl rfl) rfl (by decide) (by kernel_rfl) (by kernel_rfl) (by kernel_rfl) (fun w' hSw => (x_pickT H rfl rfl rfl)) ?_
    clear H a; intro a H
    refine h_takeg 38 H rfl (wanted_true H rfl rfl rfl rfl) rfl (by decide) (by kernel_rfl) (by kernel_rfl) (by kernel_rfl) (fun w' hSw => (x_move H rfl rfl)) ?_
    clear H a; intro a H
    refine h_skip 39 H rfl (wanted_false H rfl rfl rfl rfl) rfl (by decide) (by kernel_rfl) (by kernel_rfl) (by kernel_rfl) ?_
    clear H a; intro a H
    refine h_skip 40 H rfl (wanted_false H rfl rfl rfl rfl) rfl (by decide) (by kernel_rfl) (by kernel_rfl) (by kernel_rfl) ?_
    clear H a; intro a H
    refine h_skip 41 H rfl (wanted_false H rfl rfl rfl rfl) rfl (by decide) (by kernel_rfl) (by kernel_rfl) (by kernel_rfl) ?_
    clear H a; intro a H
    refine h_takeg 42 H rfl (wanted_true H rfl rfl rfl rfl) rfl (by decide) (by kernel_rfl) (by kernel_rfl) (by kernel_rfl) (fun w' hSw => (x_pickT H rfl rfl rfl)) ?_
    clear H a; intro a H
    refine h_take 43 H rfl rfl rfl (by decide) (by kernel_rfl) (by kernel_rfl) (by kernel_rfl) (fun w' hSw => (x_pickT H rfl rfl rfl)) ?_
    clear H a; intro a H
    refine h_take 44 H rfl rfl rfl (by decide) (by kernel_rfl) (by kernel_rfl) (by kernel_rfl) (fun w' hSw => (x_assign H rfl rfl)) ?_
    clear H a; intro a H
    refine h_done (by kernel_rfl) (hR.out _ _ ?_)
    clear hR R
    refine hK5 _ _ ?_
    clear hK5 K5
    refine wp_ret ?_
    exact ret1 H rfl rfl ⟨rfl, E1⟩
  · skip
    refine h_start (by kernel_rfl) (fun R hR => ?_)
    have U3 : Blk w1.drew g3 25 (u8s x) := T3
    have U4 : Blk w1.drew g4 25 (u8s y) := T4
    have U5 : Blk w1.drew g5 25 (u8s z) := T5
    have EW := E1.dr
    clear T3 T4 T5 E1
    obtain ⟨w0, hw0⟩ : ∃ w0, w0 = w1.drew := ⟨_, rfl⟩
    rw [← hw0] at U3 U4 U5 EW ⊢
    have h30 := U3.lt
    have h40 := U4.lt
    have h50 := U5.lt
    have EV := Ext.refl w0
    refine h_take 0 H rfl rfl rfl (by decide) (by kernel_rfl) (by kernel_rfl) (by kernel_rfl) (fun w' hSw => (x_load H rfl rfl (l_row (U3.ext hSw) Tryd.underlying25 rfl (by rw [size_d x hx]; kernel_rfl)))) ?_
    clear H a; intro a H
    refine h_take 1 H rfl rfl rfl (by decide) (by kernel_rfl) (by kernel_rfl) (by kernel_rfl) (fun w' hSw => (x_load H rfl rfl (l_row (U4.ext hSw) Tryd.underlying25 rfl (by rw [size_d y hy]; kernel_rfl)))) ?_
    clear H a; intro a H
    refine h_take 2 H rfl rfl rfl (by decide) (by kernel_rfl) (by kernel_rfl) (by kernel_rfl) (fun w' hSw => (x_load H rfl rfl (l_row (U5.ext hSw) Tryd.underlying25 rfl (by rw [size_d z hz]; kernel_rfl)))) ?_
    clear H a; intro a H
    refine k_three 3 4 5 H (by kernel_rfl) rfl (wanted_none rfl) rfl (by decide) (x_alloc H rfl (al_new (z26 _))) (EV.al (.cells (u8s (List.replicate 32 0)).toArray 26)) rfl (wanted_none rfl) rfl (by decide) (x_alloc H rfl (al_new (z26 _))) (EV.al (.cells (u8s (List.replicate 32 0)).toArray 26)) rfl (wanted_none rfl) rfl (by decide) (x_alloc H rfl (al_new (z26 _))) (EV.al (.cells (u8s (List.replicate 32 0)).toArray 26)) ?_ ?_ ?_
    · skip
      clear H a; intro a H
      have D7 := Blk.new w0 26 (u8s (List.replicate 32 0))
      have EV0 := EV.al (.cells (u8s (List.replicate 32 0)).toArray 26)
      replace U3 := U3.alloc (.cells (u8s (List.replicate 32 0)).toArray 26)
      replace U4 := U4.alloc (.cells (u8s (List.replicate 32 0)).toArray 26)
      replace U5 := U5.alloc (.cells (u8s (List.replicate 32 0)).toArray 26)
      have hz0 := EV.sz
      obtain ⟨g7, hg7⟩ : ∃ g, g = w0.heap.size := ⟨_, rfl⟩
      rw [← hg7] at H D7
      have hl7 := D7.lt
      generalize hv0 : w0.alloc (.cells (u8s (List.replicate 32 0)).toArray 26) = v0 at *
      refine k_two 4 5 H (by kernel_rfl) rfl (wanted_none rfl) rfl (by decide) (x_alloc H rfl (al_new (z26 _))) (EV0.al (.cells (u8s (List.replicate 32 0)).toArray 26)) rfl (wanted_none rfl) rfl (by decide) (x_alloc H rfl (al_new (z26 _))) (EV0.al (.cells (u8s (List.replicate 32 0)).toArray 26)) ?_ ?_
      · skip
        clear H a; intro a H
        have D8 := Blk.new v0 26 (u8s (List.replicate 32 0))
        have EV1 := EV0.al (.cells (u8s (List.replicate 32 0)).toArray 26)
        replace U3 := U3.alloc (.cells (u8s (List.replicate 32 0)).toArray 26)
        replace U4 := U4.alloc (.cells (u8s (List.replicate 32 0)).toArray 26)
        replace U5 := U5.alloc (.cells (u8s (List.replicate 32 0)).toArray 26)
        replace D7 := D7.alloc (.cells (u8s (List.replicate 32 0)).toArray 26)
        have hz1 := EV0.sz
        obtain ⟨g8, hg8⟩ : ∃ g, g = v0.heap.size := ⟨_, rfl⟩
        rw [← hg8] at H D8
        have hl8 := D8.lt
        generalize hv1 : v0.alloc (.cells (u8s (List.replicate 32 0)).toArray 26) = v1 at *
        have hne34 : g7 ≠ g8 := by omega
        replace hl7 : g7 < v1.heap.size := D7.lt
        refine k_op 5 H rfl (by kernel_rfl) (wanted_none rfl) rfl (by decide) (x_alloc H rfl (al_new (z26 _))) (EV1.al (.cells (u8s (List.replicate 32 0)).toArray 26)) ?_
        clear H a; intro a H
        have D9 := Blk.new v1 26 (u8s (List.replicate 32 0))
        have EV2 := EV1.al (.cells (u8s (List.replicate 32 0)).toArray 26)
        replace U3 := U3.alloc (.cells (u8s (List.replicate 32 0)).toArray 26)
        replace U4 := U4.alloc (.cells (u8s (List.replicate 32 0)).toArray 26)
        replace U5 := U5.alloc (.cells (u8s (List.replicate 32 0)).toArray 26)
        replace D7 := D7.alloc (.cells (u8s (List.replicate 32 0)).toArray 26)
        replace D8 := D8.alloc (.cells (u8s (List.replicate 32 0)).toArray 26)
        have hz2 := EV1.sz
        obtain ⟨g9, hg9⟩ : ∃ g, g = v1.heap.size := ⟨_, rfl⟩
        rw [← hg9] at H D9
        have hl9 := D9.lt
        generalize hv2 : v1.alloc (.cells (u8s (List.replicate 32 0)).toArray 26) = v2 at *
        have hne35 : g7 ≠ g9 := by omega
        have hne45 : g8 ≠ g9 := by omega
        replace hl7 : g7 < v2.heap.size := D7.lt
        replace hl8 : g8 < v2.heap.size := D8.lt
        refine k_st 6 H rfl (by kernel_rfl) (wanted_none rfl) rfl (x_store H rfl rfl rfl (st_row D7 (by show _ = some (u8s x).toArray.size; rw [size_d x hx]; kernel_rfl) (by show _ = (u8s x).toArray.size; rw [size_d x hx]; rfl) (one_u8 _))) (EV2.row_ (g := g7) (by omega) (u8s x).toArray) ?_
        have F7 := EV2.row_ (g := g7) (by omega) (u8s x).toArray
        replace U3 := U3.grown (grown_setRow v2 g7 (u8s x).toArray) (by simp; omega)
        replace U4 := U4.grown (grown_setRow v2 g7 (u8s x).toArray) (by simp; omega)
        replace U5 := U5.grown (grown_setRow v2 g7 (u8s x).toArray) (by simp; omega)
        replace D8 := D8.grown (grown_setRow v2 g7 (u8s x).toArray) (by simp; omega)
        replace D9 := D9.grown (grown_setRow v2 g7 (u8s x).toArray) (by simp; omega)
        replace D7 : Blk (v2.setRow g7 (u8s x).toArray) g7 26 (u8s x) := D7.row (u8s x)
        generalize v2.setRow g7 (u8s x).toArray = s7 at *
        refine k_st 7 H rfl (by kernel_rfl) (wanted_none rfl) rfl (x_store H rfl rfl rfl (st_row D8 (by show _ = some (u8s y).toArray.size; rw [size_d y hy]; kernel_rfl) (by show _ = (u8s y).toArray.size; rw [size_d y hy]; rfl) (one_u8 _))) (F7.row_ (g := g8) (by omega) (u8s y).toArray) ?_
        have F8 := F7.row_ (g := g8) (by omega) (u8s y).toArray
        replace U3 := U3.grown (grown_setRow s7 g8 (u8s y).toArray) (by simp; omega)
        replace U4 := U4.grown (grown_setRow s7 g8 (u8s y).toArray) (by simp; omega)
        replace U5 := U5.grown (grown_setRow s7 g8 (u8s y).toArray) (by simp; omega)
        replace D7 := D7.grown (grown_setRow s7 g8 (u8s y).toArray) (by simp; omega)
        replace D9 := D9.grown (grown_setRow s7 g8 (u8s y).toArray) (by simp; omega)
        replace D8 : Blk (s7.setRow g8 (u8s y).toArray) g8 26 (u8s y) := D8.row (u8s y)
        generalize s7.setRow g8 (u8s y).toArray = s8 at *
        refine k_st 8 H rfl (by kernel_rfl) (wanted_none rfl) rfl (x_store H rfl rfl rfl (st_row D9 (by show _ = some (u8s z).toArray.size; rw [size_d z hz]; kernel_rfl) (by show _ = (u8s z).toArray.size; rw [size_d z hz]; rfl) (one_u8 _))) (F8.row_ (g := g9) (by omega) (u8s z).toArray) ?_
        have F9 := F8.row_ (g := g9) (by omega) (u8s z).toArray
        replace U3 := U3.grown (grown_setRow s8 g9 (u8s z).toArray) (by simp; omega)
        replace U4 := U4.grown (grown_setRow s8 g9 (u8s z).toArray) (by simp; omega)
        replace U5 := U5.grown (grown_setRow s8 g9 (u8s z).toArray) (by simp; omega)
        replace D7 := D7.grown (grown_setRow s8 g9 (u8s z).toArray) (by simp; omega)
        replace D8 := D8.grown (grown_setRow s8 g9 (u8s z).toArray) (by simp; omega)
        replace D9 : Blk (s8.setRow g9 (u8s z).toArray) g9 26 (u8s z) := D9.row (u8s z)
        generalize s8.setRow g9 (u8s z).toArray = s9 at *
        refine k_done (by kernel_rfl) (hR.out _ _ ⟨rfl, g7, g8, g9, H.sub ⟨rfl, rfl, rfl, rfl, rfl, rfl, trivial⟩, U3, U4, U5, D7, D8, D9, EW.tr F9⟩)
      · skip
        clear H a; intro a H
        have D9 := Blk.new v0 26 (u8s (List.replicate 32 0))
        have EV1 := EV0.al (.cells (u8s (List.replicate 32 0)).toArray 26)
        replace U3 := U3.alloc (.cells (u8s (List.replicate 32 0)).toArray 26)
        replace U4 := U4.alloc (.cells (u8s (List.replicate 32 0)).toArray 26)
        replace U5 := U5.alloc (.cells (u8s (List.replicate 32 0)).toArray 26)
        replace D7 := D7.alloc (.cells (u8s (List.replicate 32 0)).toArray 26)
        have hz1 := EV0.sz
        obtain ⟨g9, hg9⟩ : ∃ g, g = v0.heap.size := ⟨_, rfl⟩
        rw [← hg9] at H D9
        have hl9 := D9.lt
        generalize hv1 : v0.alloc (.cells (u8s (List.replicate 32 0)).toArray 26) = v1 at *
        have hne35 : g7 ≠ g9 := by omega
        replace hl7 : g7 < v1.heap.size := D7.lt
        refine k_op 4 H rfl (by kernel_rfl) (wanted_none rfl) rfl (by decide) (x_alloc H rfl (al_new (z26 _))) (EV1.al (.cells (u8s (List.replicate 32 0)).toArray 26)) ?_
        clear H a; intro a H
        have D8 := Blk.new v1 26 (u8s (List.replicate 32 0))
        have EV2 := EV1.al (.cells (u8s (List.replicate 32 0)).toArray 26)
        replace U3 := U3.alloc (.cells (u8s (List.replicate 32 0)).toArray 26)
        replace U4 := U4.alloc (.cells (u8s (List.replicate 32 0)).toArray 26)
        replace U5 := U5.alloc (.cells (u8s (List.replicate 32 0)).toArray 26)
        replace D7 := D7.alloc (.cells (u8s (List.replicate 32 0)).toArray 26)
        replace D9 := D9.alloc (.cells (u8s (List.replicate 32 0)).toArray 26)
        have hz2 := EV1.sz
        obtain ⟨g8, hg8⟩ : ∃ g, g = v1.heap.size := ⟨_, rfl⟩
        rw [← hg8] at H D8
        have hl8 := D8.lt
        generalize hv2 : v1.alloc (.cells (u8s (List.replicate 32 0)).toArray 26) = v2 at *
        have hne34 : g7 ≠ g8 := by omega
        have hne54 : g9 ≠ g8 := by omega
        replace hl7 : g7 < v2.heap.size := D7.lt
        replace hl9 : g9 < v2.heap.size := D9.lt
        refine k_st 6 H rfl (by kernel_rfl) (wanted_none rfl) rfl (x_store H rfl rfl rfl (st_row D7 (by show _ = some (u8s x).toArray.size; rw [size_d x hx]; kernel_rfl) (by show _ = (u8s x).toArray.size; rw [size_d x hx]; rfl) (one_u8 _))) (EV2.row_ (g := g7) (by omega) (u8s x).toArray) ?_
        have F7 := EV2.row_ (g := g7) (by omega) (u8s x).toArray
        replace U3 := U3.grown (grown_setRow v2 g7 (u8s x).toArray) (by simp; omega)
        replace U4 := U4.grown (grown_setRow v2 g7 (u8s x).toArray) (by simp; omega)
        replace U5 := U5.grown (grown_setRow v2 g7 (u8s x).toArray) (by simp; omega)
        replace D8 := D8.grown (grown_setRow v2 g7 (u8s x).toArray) (by simp; omega)
        replace D9 := D9.grown (grown_setRow v2 g7 (u8s x).toArray) (by simp; omega)
        replace D7 : Blk (v2.setRow g7 (u8s x).toArray) g7 26 (u8s x) := D7.row (u8s x)
        generalize v2.setRow g7 (u8s x).toArray = s7 at *
        refine k_st 7 H rfl (by kernel_rfl) (wanted_none rfl) rfl (x_store H rfl rfl rfl (st_row D8 (by show _ = some (u8s y).toArray.size; rw [size_d y hy]; kernel_rfl) (by show _ = (u8s y).toArray.size; rw [size_d y hy]; rfl) (one_u8 _))) (F7.row_ (g := g8) (by omega) (u8s y).toArray) ?_
        have F8 := F7.row_ (g := g8) (by omega) (u8s y).toArray
        replace U3 := U3.grown (grown_setRow s7 g8 (u8s y).toArray) (by simp; omega)
        replace U4 := U4.grown (grown_setRow s7 g8 (u8s y).toArray) (by simp; omega)
        replace U5 := U5.grown (grown_setRow s7 g8 (u8s y).toArray) (by simp; omega)
        replace D7 := D7.grown (grown_setRow s7 g8 (u8s y).toArray) (by simp; omega)
        replace D9 := D9.grown (grown_setRow s7 g8 (u8s y).toArray) (by simp; omega)
        replace D8 : Blk (s7.setRow g8 (u8s y).toArray) g8 26 (u8s y) := D8.row (u8s y)
        generalize s7.setRow g8 (u8s y).toArray = s8 at *
        refine k_st 8 H rfl (by kernel_rfl) (wanted_none rfl) rfl (x_store H rfl rfl rfl (st_row D9 (by show _ = some (u8s z).toArray.size; rw [size_d z hz]; kernel_rfl) (by show _ = (u8s z).toArray.size; rw [size_d z hz]; rfl) (one_u8 _))) (F8.row_ (g := g9) (by omega) (u8s z).toArray) ?_
        have F9 := F8.row_ (g := g9) (by omega) (u8s z).toArray
        replace U3 := U3.grown (grown_setRow s8 g9 (u8s z).toArray) (by simp; omega)
        replace U4 := U4.grown (grown_setRow s8 g9 (u8s z).toArray) (by simp; omega)
        replace U5 := U5.grown (grown_setRow s8 g9 (u8s z).toArray) (by simp; omega)
        replace D7 := D7.grown (grown_setRow s8 g9 (u8s z).toArray) (by simp; omega)
        replace D8 := D8.grown (grown_setRow s8 g9 (u8s z).toArray) (by simp; omega)
        replace D9 : Blk (s8.setRow g9 (u8s z).toArray) g9 26 (u8s z) := D9.row (u8s z)
        generalize s8.setRow g9 (u8s z).toArray = s9 at *
        refine k_done (by kernel_rfl) (hR.out _ _ ⟨rfl, g7, g8, g9, H.sub ⟨rfl, rfl, rfl, rfl, rfl, rfl, trivial⟩, U3, U4, U5, D7, D8, D9, EW.tr F9⟩)
    · skip
      clear H a; intro a H
      have D8 := Blk.new w0 26 (u8s (List.replicate 32 0))
      have EV0 := EV.al (.cells (u8s (List.replicate 32 0)).toArray 26)
      replace U3 := U3.alloc (.cells (u8s (List.replicate 32 0)).toArray 26)
      replace U4 := U4.alloc (.cells (u8s (List.replicate 32 0)).toArray 26)
      replace U5 := U5.alloc (.cells (u8s (List.replicate 32 0)).toArray 26)
      have hz0 := EV.sz
      obtain ⟨g8, hg8⟩ : ∃ g, g = w0.heap.size := ⟨_, rfl⟩
      rw [← hg8] at H D8
      have hl8 := D8.lt
      generalize hv0 : w0.alloc (.cells (u8s (List.replicate 32 0)).toArray 26) = v0 at *
      refine k_two 3 5 H (by kernel_rfl) rfl (wanted_none rfl) rfl (by decide) (x_alloc H rfl (al_new (z26 _))) (EV0.al (.cells (u8s (List.replicate 32 0)).toArray 26)) rfl (wanted_none rfl) rfl (by decide) (x_alloc H rfl (al_new (z26 _))) (EV0.al (.cells (u8s (List.replicate 32 0)).toArray 26)) ?_ ?_
      · skip
        clear H a; intro a H
        have D7 := Blk.new v0 26 (u8s (List.replicate 32 0))
        have EV1 := EV0.al (.cells (u8s (List.replicate 32 0)).toArray 26)
        replace U3 := U3.alloc (.cells (u8s (List.replicate 32 0)).toArray 26)
        replace U4 := U4.alloc (.cells (u8s (List.replicate 32 0)).toArray 26)
        replace U5 := U5.alloc (.cells (u8s (List.replicate 32 0)).toArray 26)
        replace D8 := D8.alloc (.cells (u8s (List.replicate 32 0)).toArray 26)
        have hz1 := EV0.sz
        obtain ⟨g7, hg7⟩ : ∃ g, g = v0.heap.size := ⟨_, rfl⟩
        rw [← hg7] at H D7
        have hl7 := D7.lt
        generalize hv1 : v0.alloc (.cells (u8s (List.replicate 32 0)).toArray 26) = v1 at *
        have hne43 : g8 ≠ g7 := by omega
        replace hl8 : g8 < v1.heap.size := D8.lt
        refine k_op 5 H rfl (by kernel_rfl) (wanted_none rfl) rfl (by decide) (x_alloc H rfl (al_new (z26 _))) (EV1.al (.cells (u8s (List.replicate 32 0)).toArray 26)) ?_
        clear H a; intro a H
        have D9 := Blk.new v1 26 (u8s (List.replicate 32 0))
        have EV2 := EV1.al (.cells (u8s (List.replicate 32 0)).toArray 26)
        replace U3 := U3.alloc (.cells (u8s (List.replicate 32 0)).toArray 26)
        replace U4 := U4.alloc (.cells (u8s (List.replicate 32 0)).toArray 26)
        replace U5 := U5.alloc (.cells (u8s (List.replicate 32 0)).toArray 26)
        replace D8 := D8.alloc (.cells (u8s (List.replicate 32 0)).toArray 26)
        replace D7 := D7.alloc (.cells (u8s (List.replicate 32 0)).toArray 26)
        have hz2 := EV1.sz
        obtain ⟨g9, hg9⟩ : ∃ g, g = v1.heap.size := ⟨_, rfl⟩
        rw [← hg9] at H D9
        have hl9 := D9.lt
        generalize hv2 : v1.alloc (.cells (u8s (List.replicate 32 0)).toArray 26) = v2 at *
        have hne45 : g8 ≠ g9 := by omega
        have hne35 : g7 ≠ g9 := by omega
        replace hl8 : g8 < v2.heap.size := D8.lt
        replace hl7 : g7 < v2.heap.size := D7.lt
        refine k_st 6 H rfl (by kernel_rfl) (wanted_none rfl) rfl (x_store H rfl rfl rfl (st_row D7 (by show _ = some (u8s x).toArray.size; rw [size_d x hx]; kernel_rfl) (by show _ = (u8s x).toArray.size; rw [size_d x hx]; rfl) (one_u8 _))) (EV2.row_ (g := g7) (by omega) (u8s x).toArray) ?_
        have F7 := EV2.row_ (g := g7) (by omega) (u8s x).toArray
        replace U3 := U3.grown (grown_setRow v2 g7 (u8s x).toArray) (by simp; omega)
        replace U4 := U4.grown (grown_setRow v2 g7 (u8s x).toArray) (by simp; omega)
        replace U5 := U5.grown (grown_setRow v2 g7 (u8s x).toArray) (by simp; omega)
        replace D8 := D8.grown (grown_setRow v2 g7 (u8s x).toArray) (by simp; omega)
        replace D9 := D9.grown (grown_setRow v2 g7 (u8s x).toArray) (by simp; omega)
        replace D7 : Blk (v2.setRow g7 (u8s x).toArray) g7 26 (u8s x) := D7.row (u8s x)
        generalize v2.setRow g7 (u8s x).toArray = s7 at *
        refine k_st 7 H rfl (by kernel_rfl) (wanted_none rfl) rfl (x_store H rfl rfl rfl (st_row D8 (by show _ = some (u8s y).toArray.size; rw [size_d y hy]; kernel_rfl) (by show _ = (u8s y).toArray.size; rw [size_d y hy]; rfl) (one_u8 _))) (F7.row_ (g := g8) (by omega) (u8s y).toArray) ?_
        have F8 := F7.row_ (g := g8) (by omega) (u8s y).toArray
        replace U3 := U3.grown (grown_setRow s7 g8 (u8s y).toArray) (by simp; omega)
        replace U4 := U4.grown (grown_setRow s7 g8 (u8s y).toArray) (by simp; omega)
        replace U5 := U5.grown (grown_setRow s7 g8 (u8s y).toArray) (by simp; omega)
        replace D7 := D7.grown (grown_setRow s7 g8 (u8s y).toArray) (by simp; omega)
        replace D9 := D9.grown (grown_setRow s7 g8 (u8s y).toArray) (by simp; omega)
        replace D8 : Blk (s7.setRow g8 (u8s y).toArray) g8 26 (u8s y) := D8.row (u8s y)
        generalize s7.setRow g8 (u8s y).toArray = s8 at *
        refine k_st 8 H rfl (by kernel_rfl) (wanted_none rfl) rfl (x_store H rfl rfl rfl (st_row D9 (by show _ = some (u8s z).toArray.size; rw [size_d z hz]; kernel_rfl) (by show _ = (u8s z).toArray.size; rw [size_d z hz]; rfl) (one_u8 _))) (F8.row_ (g := g9) (by omega) (u8s z).toArray) ?_
        have F9 := F8.row_ (g := g9) (by omega) (u8s z).toArray
        replace U3 := U3.grown (grown_setRow s8 g9 (u8s z).toArray) (by simp; omega)
        replace U4 := U4.grown (grown_setRow s8 g9 (u8s z).toArray) (by simp; omega)
        replace U5 := U5.grown (grown_setRow s8 g9 (u8s z).toArray) (by simp; omega)
        replace D7 := D7.grown (grown_setRow s8 g9 (u8s z).toArray) (by simp; omega)
        replace D8 := D8.grown (grown_setRow s8 g9 (u8s z).toArray) (by simp; omega)
        replace D9 : Blk (s8.setRow g9 (u8s z).toArray) g9 26 (u8s z) := D9.row (u8s z)
        generalize s8.setRow g9 (u8s z).toArray = s9 at *
        refine k_done (by kernel_rfl) (hR.out _ _ ⟨rfl, g7, g8, g9, H.sub ⟨rfl, rfl, rfl, rfl, rfl, rfl, trivial⟩, U3, U4, U5, D7, D8, D9, EW.tr F9⟩)
      · skip
        clear H a; intro a H
        have D9 := Blk.new v0 26 (u8s (List.replicate 32 0))
        have EV1 := EV0.al (.cells (u8s (List.replicate 32 0)).toArray 26)
        replace U3 := U3.alloc (.cells (u8s (List.replicate 32 0)).toArray 26)
        replace U4 := U4.alloc (.cells (u8s (List.replicate 32 0)).toArray 26)
        replace U5 := U5.alloc (.cells (u8s (List.replicate 32 0)).toArray 26)
        replace D8 := D8.alloc (.cells (u8s (List.replicate 32 0)).toArray 26)
        have hz1 := EV0.sz
        obtain ⟨g9, hg9⟩ : ∃ g, g = v0.heap.size := ⟨_, rfl⟩
        rw [← hg9] at H D9
        have hl9 := D9.lt
        generalize hv1 : v0.alloc (.cells (u8s (List.replicate 32 0)).toArray 26) = v1 at *
        have hne45 : g8 ≠ g9 := by omega
        replace hl8 : g8 < v1.heap.size := D8.lt
        refine k_op 3 H rfl (by kernel_rfl) (wanted_none rfl) rfl (by decide) (x_alloc H rfl (al_new (z26 _))) (EV1.al (.cells (u8s (List.replicate 32 0)).toArray 26)) ?_
        clear H a; intro a H
        have D7 := Blk.new v1 26 (u8s (List.replicate 32 0))
        have EV2 := EV1.al (.cells (u8s (List.replicate 32 0)).toArray 26)
        replace U3 := U3.alloc (.cells (u8s (List.replicate 32 0)).toArray 26)
        replace U4 := U4.alloc (.cells (u8s (List.replicate 32 0)).toArray 26)
        replace U5 := U5.alloc (.cells (u8s (List.replicate 32 0)).toArray 26)
        replace D8 := D8.alloc (.cells (u8s (List.replicate 32 0)).toArray 26)
        replace D9 := D9.alloc (.cells (u8s (List.replicate 32 0)).toArray 26)
        have hz2 := EV1.sz
        obtain ⟨g7, hg7⟩ : ∃ g, g = v1.heap.size := ⟨_, rfl⟩
        rw [← hg7] at H D7
        have hl7 := D7.lt
        generalize hv2 : v1.alloc (.cells (u8s (List.replicate 32 0)).toArray 26) = v2 at *
        have hne43 : g8 ≠ g7 := by omega
        have hne53 : g9 ≠ g7 := by omega
        replace hl8 : g8 < v2.heap.size := D8.lt
        replace hl9 : g9 < v2.heap.size := D9.lt
        refine k_st 6 H rfl (by kernel_rfl) (wanted_none rfl) rfl (x_store H rfl rfl rfl (st_row D7 (by show _ = some (u8s x).toArray.size; rw [size_d x hx]; kernel_rfl) (by show _ = (u8s x).toArray.size; rw [size_d x hx]; rfl) (one_u8 _))) (EV2.row_ (g := g7) (by omega) (u8s x).toArray) ?_
        have F7 := EV2.row_ (g := g7) (by omega) (u8s x).toArray
        replace U3 := U3.grown (grown_setRow v2 g7 (u8s x).toArray) (by simp; omega)
        replace U4 := U4.grown (grown_setRow v2 g7 (u8s x).toArray) (by simp; omega)
        replace U5 := U5.grown (grown_setRow v2 g7 (u8s x).toArray) (by simp; omega)
        replace D8 := D8.grown (grown_setRow v2 g7 (u8s x).toArray) (by simp; omega)
        replace D9 := D9.grown (grown_setRow v2 g7 (u8s x).toArray) (by simp; omega)
        replace D7 : Blk (v2.setRow g7 (u8s x).toArray) g7 26 (u8s x) := D7.row (u8s x)
        generalize v2.setRow g7 (u8s x).toArray = s7 at *
        refine k_st 7 H rfl (by kernel_rfl) (wanted_none rfl) rfl (x_store H rfl rfl rfl (st_row D8 (by show _ = some (u8s y).toArray.size; rw [size_d y hy]; kernel_rfl) (by show _ = (u8s y).toArray.size; rw [size_d y hy]; rfl) (one_u8 _))) (F7.row_ (g := g8) (by omega) (u8s y).toArray) ?_
        have F8 := F7.row_ (g := g8) (by omega) (u8s y).toArray
        replace U3 := U3.grown (grown_setRow s7 g8 (u8s y).toArray) (by simp; omega)
        replace U4 := U4.grown (grown_setRow s7 g8 (u8s y).toArray) (by simp; omega)
        replace U5 := U5.grown (grown_setRow s7 g8 (u8s y).toArray) (by simp; omega)
        replace D7 := D7.grown (grown_setRow s7 g8 (u8s y).toArray) (by simp; omega)
        replace D9 := D9.grown (grown_setRow s7 g8 (u8s y).toArray) (by simp; omega)
        replace D8 : Blk (s7.setRow g8 (u8s y).toArray) g8 26 (u8s y) := D8.row (u8s y)
        generalize s7.setRow g8 (u8s y).toArray = s8 at *
        refine k_st 8 H rfl (by kernel_rfl) (wanted_none rfl) rfl (x_store H rfl rfl rfl (st_row D9 (by show _ = some (u8s z).toArray.size; rw [size_d z hz]; kernel_rfl) (by show _ = (u8s z).toArray.size; rw [size_d z hz]; rfl) (one_u8 _))) (F8.row_ (g := g9) (by omega) (u8s z).toArray) ?_
        have F9 := F8.row_ (g := g9) (by omega) (u8s z).toArray
        replace U3 := U3.grown (grown_setRow s8 g9 (u8s z).toArray) (by simp; omega)
        replace U4 := U4.grown (grown_setRow s8 g9 (u8s z).toArray) (by simp; omega)
        replace U5 := U5.grown (grown_setRow s8 g9 (u8s z).toArray) (by simp; omega)
        replace D7 := D7.grown (grown_setRow s8 g9 (u8s z).toArray) (by simp; omega)
        replace D8 := D8.grown (grown_setRow s8 g9 (u8s z).toArray) (by simp; omega)
        replace D9 : Blk (s8.setRow g9 (u8s z).toArray) g9 26 (u8s z) := D9.row (u8s z)
        generalize s8.setRow g9 (u8s z).toArray = s9 at *
        refine k_done (by kernel_rfl) (hR.out _ _ ⟨rfl, g7, g8, g9, H.sub ⟨rfl, rfl, rfl, rfl, rfl, rfl, trivial⟩, U3, U4, U5, D7, D8, D9, EW.tr F9⟩)
    · skip
      clear H a; intro a H
      have D9 := Blk.new w0 26 (u8s (List.replicate 32 0))
      have EV0 := EV.al (.cells (u8s (List.replicate 32 0)).toArray 26)
      replace U3 := U3.alloc (.cells (u8s (List.replicate 32 0)).toArray 26)
      replace U4 := U4.alloc (.cells (u8s (List.replicate 32 0)).toArray 26)
      replace U5 := U5.alloc (.cells (u8s (List.replicate 32 0)).toArray 26)
      have hz0 := EV.sz
      obtain ⟨g9, hg9⟩ : ∃ g, g = w0.heap.size := ⟨_, rfl⟩
      rw [← hg9] at H D9
      have hl9 := D9.lt
      generalize hv0 : w0.alloc (.cells (u8s (List.replicate 32 0)).toArray 26) = v0 at *
      refine k_two 3 4 H (by kernel_rfl) rfl (wanted_none rfl) rfl (by decide) (x_alloc H rfl (al_new (z26 _))) (EV0.al (.cells (u8s (List.replicate 32 0)).toArray 26)) rfl (wanted_none rfl) rfl (by decide) (x_alloc H rfl (al_new (z26 _))) (EV0.al (.cells (u8s (List.replicate 32 0)).toArray 26)) ?_ ?_
      · skip
        clear H a; intro a H
        have D7 := Blk.new v0 26 (u8s (List.replicate 32 0))
        have EV1 := EV0.al (.cells (u8s (List.replicate 32 0)).toArray 26)
        replace U3 := U3.alloc (.cells (u8s (List.replicate 32 0)).toArray 26)
        replace U4 := U4.alloc (.cells (u8s (List.replicate 32 0)).toArray 26)
        replace U5 := U5.alloc (.cells (u8s (List.replicate 32 0)).toArray 26)
        replace D9 := D9.alloc (.cells (u8s (List.replicate 32 0)).toArray 26)
        have hz1 := EV0.sz
        obtain ⟨g7, hg7⟩ : ∃ g, g = v0.heap.size := ⟨_, rfl⟩
        rw [← hg7] at H D7
        have hl7 := D7.lt
        generalize hv1 : v0.alloc (.cells (u8s (List.replicate 32 0)).toArray 26) = v1 at *
        have hne53 : g9 ≠ g7 := by omega
        replace hl9 : g9 < v1.heap.size := D9.lt
        refine k_op 4 H rfl (by kernel_rfl) (wanted_none rfl) rfl (by decide) (x_alloc H rfl (al_new (z26 _))) (EV1.al (.cells (u8s (List.replicate 32 0)).toArray 26)) ?_
        clear H a; intro a H
        have D8 := Blk.new v1 26 (u8s (List.replicate 32 0))
        have EV2 := EV1.al (.cells (u8s (List.replicate 32 0)).toArray 26)
        replace U3 := U3.alloc (.cells (u8s (List.replicate 32 0)).toArray 26)
        replace U4 := U4.alloc (.cells (u8s (List.replicate 32 0)).toArray 26)
        replace U5 := U5.alloc (.cells (u8s (List.replicate 32 0)).toArray 26)
        replace D9 := D9.alloc (.cells (u8s (List.replicate 32 0)).toArray 26)
        replace D7 := D7.alloc (.cells (u8s (List.replicate 32 0)).toArray 26)
        have hz2 := EV1.sz
        obtain ⟨g8, hg8⟩ : ∃ g, g = v1.heap.size := ⟨_, rfl⟩
        rw [← hg8] at H D8
        have hl8 := D8.lt
        generalize hv2 : v1.alloc (.cells (u8s (List.replicate 32 0)).toArray 26) = v2 at *
        have hne54 : g9 ≠ g8 := by omega
        have hne34 : g7 ≠ g8 := by omega
        replace hl9 : g9 < v2.heap.size := D9.lt
        replace hl7 : g7 < v2.heap.size := D7.lt
        refine k_st 6 H rfl (by kernel_rfl) (wanted_none rfl) rfl (x_store H rfl rfl rfl (st_row D7 (by show _ = some (u8s x).toArray.size; rw [size_d x hx]; kernel_rfl) (by show _ = (u8s x).toArray.size; rw [size_d x hx]; rfl) (one_u8 _))) (EV2.row_ (g := g7) (by omega) (u8s x).toArray) ?_
        have F7 := EV2.row_ (g := g7) (by omega) (u8s x).toArray
        replace U3 := U3.grown (grown_setRow v2 g7 (u8s x).toArray) (by simp; omega)
        replace U4 := U4.grown (grown_setRow v2 g7 (u8s x).toArray) (by simp; omega)
        replace U5 := U5.grown (grown_setRow v2 g7 (u8s x).toArray) (by simp; omega)
        replace D8 := D8.grown (grown_setRow v2 g7 (u8s x).toArray) (by simp; omega)
        replace D9 := D9.grown (grown_setRow v2 g7 (u8s x).toArray) (by simp; omega)
        replace D7 : Blk (v2.setRow g7 (u8s x).toArray) g7 26 (u8s x) := D7.row (u8s x)
        generalize v2.setRow g7 (u8s x).toArray = s7 at *
        refine k_st 7 H rfl (by kernel_rfl) (wanted_none rfl) rfl (x_store H rfl rfl rfl (st_row D8 (by show _ = some (u8s y).toArray.size; rw [size_d y hy]; kernel_rfl) (by show _ = (u8s y).toArray.size; rw [size_d y hy]; rfl) (one_u8 _))) (F7.row_ (g := g8) (by omega) (u8s y).toArray) ?_
        have F8 := F7.row_ (g := g8) (by omega) (u8s y).toArray
        replace U3 := U3.grown (grown_setRow s7 g8 (u8s y).toArray) (by simp; omega)
        replace U4 := U4.grown (grown_setRow s7 g8 (u8s y).toArray) (by simp; omega)
        replace U5 := U5.grown (grown_setRow s7 g8 (u8s y).toArray) (by simp; omega)
        replace D7 := D7.grown (grown_setRow s7 g8 (u8s y).toArray) (by simp; omega)
        replace D9 := D9.grown (grown_setRow s7 g8 (u8s y).toArray) (by simp; omega)
        replace D8 : Blk (s7.setRow g8 (u8s y).toArray) g8 26 (u8s y) := D8.row (u8s y)
        generalize s7.setRow g8 (u8s y).toArray = s8 at *
        refine k_st 8 H rfl (by kernel_rfl) (wanted_none rfl) rfl (x_store H rfl rfl rfl (st_row D9 (by show _ = some (u8s z).toArray.size; rw [size_d z hz]; kernel_rfl) (by show _ = (u8s z).toArray.size; rw [size_d z hz]; rfl) (one_u8 _))) (F8.row_ (g := g9) (by omega) (u8s z).toArray) ?_
        have F9 := F8.row_ (g := g9) (by omega) (u8s z).toArray
        replace U3 := U3.grown (grown_setRow s8 g9 (u8s z).toArray) (by simp; omega)
        replace U4 := U4.grown (grown_setRow s8 g9 (u8s z).toArray) (by simp; omega)
        replace U5 := U5.grown (grown_setRow s8 g9 (u8s z).toArray) (by simp; omega)
        replace D7 := D7.grown (grown_setRow s8 g9 (u8s z).toArray) (by simp; omega)
        replace D8 := D8.grown (grown_setRow s8 g9 (u8s z).toArray) (by simp; omega)
        replace D9 : Blk (s8.setRow g9 (u8s z).toArray) g9 26 (u8s z) := D9.row (u8s z)
        generalize s8.setRow g9 (u8s z).toArray = s9 at *
        refine k_done (by kernel_rfl) (hR.out _ _ ⟨rfl, g7, g8, g9, H.sub ⟨rfl, rfl, rfl, rfl, rfl, rfl, trivial⟩, U3, U4, U5, D7, D8, D9, EW.tr F9⟩)
      · skip
        clear H a; intro a H
        have D8 := Blk.new v0 26 (u8s (List.replicate 32 0))
        have EV1 := EV0.al (.cells (u8s (List.replicate 32 0)).toArray 26)
        replace U3 := U3.alloc (.cells (u8s (List.replicate 32 0)).toArray 26)
        replace U4 := U4.alloc (.cells (u8s (List.replicate 32 0)).toArray 26)
        replace U5 := U5.alloc (.cells (u8s (List.replicate 32 0)).toArray 26)
        replace D9 := D9.alloc (.cells (u8s (List.replicate 32 0)).toArray 26)
        have hz1 := EV0.sz
        obtain ⟨g8, hg8⟩ : ∃ g, g = v0.heap.size := ⟨_, rfl⟩
        rw [← hg8] at H D8
        have hl8 := D8.lt
        generalize hv1 : v0.alloc (.cells (u8s (List.replicate 32 0)).toArray 26) = v1 at *
        have hne54 : g9 ≠ g8 := by omega
        replace hl9 : g9 < v1.heap.size := D9.lt
        refine k_op 3 H rfl (by kernel_rfl) (wanted_none rfl) rfl (by decide) (x_alloc H rfl (al_new (z26 _))) (EV1.al (.cells (u8s (List.replicate 32 0)).toArray 26)) ?_
        clear H a; intro a H
        have D7 := Blk.new v1 26 (u8s (List.replicate 32 0))
        have EV2 := EV1.al (.cells (u8s (List.replicate 32 0)).toArray 26)
        replace U3 := U3.alloc (.cells (u8s (List.replicate 32 0)).toArray 26)
        replace U4 := U4.alloc (.cells (u8s (List.replicate 32 0)).toArray 26)
        replace U5 := U5.alloc (.cells (u8s (List.replicate 32 0)).toArray 26)
        replace D9 := D9.alloc (.cells (u8s (List.replicate 32 0)).toArray 26)
        replace D8 := D8.alloc (.cells (u8s (List.replicate 32 0)).toArray 26)
        have hz2 := EV1.sz
        obtain ⟨g7, hg7⟩ : ∃ g, g = v1.heap.size := ⟨_, rfl⟩
        rw [← hg7] at H D7
        have hl7 := D7.lt
        generalize hv2 : v1.alloc (.cells (u8s (List.replicate 32 0)).toArray 26) = v2 at *
        have hne53 : g9 ≠ g7 := by omega
        have hne43 : g8 ≠ g7 := by omega
        replace hl9 : g9 < v2.heap.size := D9.lt
        replace hl8 : g8 < v2.heap.size := D8.lt
        refine k_st 6 H rfl (by kernel_rfl) (wanted_none rfl) rfl (x_store H rfl rfl rfl (st_row D7 (by show _ = some (u8s x).toArray.size; rw [size_d x hx]; kernel_rfl) (by show _ = (u8s x).toArray.size; rw [size_d x hx]; rfl) (one_u8 _))) (EV2.row_ (g := g7) (by omega) (u8s x).toArray) ?_
        have F7 := EV2.row_ (g := g7) (by omega) (u8s x).toArray
        replace U3 := U3.grown (grown_setRow v2 g7 (u8s x).toArray) (by simp; omega)
        replace U4 := U4.grown (grown_setRow v2 g7 (u8s x).toArray) (by simp; omega)
        replace U5 := U5.grown (grown_setRow v2 g7 (u8s x).toArray) (by simp; omega)
        replace D8 := D8.grown (grown_setRow v2 g7 (u8s x).toArray) (by simp; omega)
        replace D9 := D9.grown (grown_setRow v2 g7 (u8s x).toArray) (by simp; omega)
        replace D7 : Blk (v2.setRow g7 (u8s x).toArray) g7 26 (u8s x) := D7.row (u8s x)
        generalize v2.setRow g7 (u8s x).toArray = s7 at *
        refine k_st 7 H rfl (by kernel_rfl) (wanted_none rfl) rfl (x_store H rfl rfl rfl (st_row D8 (by show _ = some (u8s y).toArray.size; rw [size_d y hy]; kernel_rfl) (by show _ = (u8s y).toArray.size; rw [size_d y hy]; rfl) (one_u8 _))) (F7.row_ (g := g8) (by omega) (u8s y).toArray) ?_
        have F8 := F7.row_ (g := g8) (by omega) (u8s y).toArray
        replace U3 := U3.grown (grown_setRow s7 g8 (u8s y).toArray) (by simp; omega)
        replace U4 := U4.grown (grown_setRow s7 g8 (u8s y).toArray) (by simp; omega)
        replace U5 := U5.grown (grown_setRow s7 g8 (u8s y).toArray) (by simp; omega)
        replace D7 := D7.grown (grown_setRow s7 g8 (u8s y).toArray) (by simp; omega)
        replace D9 := D9.grown (grown_setRow s7 g8 (u8s y).toArray) (by simp; omega)
        replace D8 : Blk (s7.setRow g8 (u8s y).toArray) g8 26 (u8s y) := D8.row (u8s y)
        generalize s7.setRow g8 (u8s y).toArray = s8 at *
        refine k_st 8 H rfl (by kernel_rfl) (wanted_none rfl) rfl (x_store H rfl rfl rfl (st_row D9 (by show _ = some (u8s z).toArray.size; rw [size_d z hz]; kernel_rfl) (by show _ = (u8s z).toArray.size; rw [size_d z hz]; rfl) (one_u8 _))) (F8.row_ (g := g9) (by omega) (u8s z).toArray) ?_
        have F9 := F8.row_ (g := g9) (by omega) (u8s z).toArray
        replace U3 := U3.grown (grown_setRow s8 g9 (u8s z).toArray) (by simp; omega)
        replace U4 := U4.grown (grown_setRow s8 g9 (u8s z).toArray) (by simp; omega)
        replace U5 := U5.grown (grown_setRow s8 g9 (u8s z).toArray) (by simp; omega)
        replace D7 := D7.grown (grown_setRow s8 g9 (u8s z).toArray) (by simp; omega)
        replace D8 := D8.grown (grown_setRow s8 g9 (u8s z).toArray) (by simp; omega)
        replace D9 : Blk (s8.setRow g9 (u8s z).toArray) g9 26 (u8s z) := D9.row (u8s z)
        generalize s8.setRow g9 (u8s z).toArray = s9 at *
        refine k_done (by kernel_rfl) (hR.out _ _ ⟨rfl, g7, g8, g9, H.sub ⟨rfl, rfl, rfl, rfl, rfl, rfl, trivial⟩, U3, U4, U5, D7, D8, D9, EW.tr F9⟩)
theorem ordersC (x y z : List UInt8) (hx : x.length = 32) (hy : y.length = 32) (hz : z.length = 32) (hc : x ≠ y) (hxy : blt x y = true) (hyx : blt y x = false) (hyz : blt y z = false) (W : World) (K0 : Kc W) (h0 : 0 < W.heap.size) :
    Calls Tryd.prog 5 #[.agg (u8s x).toArray, .agg (u8s y).toArray, .agg (u8s z).toArray] W fun e w' => e = .returned (.bool true) ∧ Ext W w' := by
  refine calls_has (args := [.agg (u8s x).toArray, .agg (u8s y).toArray, .agg (u8s z).toArray]) Tryd.func5 rfl Tryd.ntmps5 (Nat.le_of_ble_eq_true rfl) (fun a H => ?_)
  simp only [argl, Nat.reduceAdd] at H
  refine wp_seq_k (fun K1 hK1 => ?_)
  refine e_region (fun R hR => ?_)
  refine e_op H rfl rfl (by decide) (x_box H rfl rfl bx_new) ?_
  clear H a; intro a H
  have T3 := Blk.new W 25 (u8s x)
  have E3 := (Ext.refl W).al (.cells (u8s x).toArray 25)
  obtain ⟨g3, hg3⟩ : ∃ g, g = W.heap.size := ⟨_, rfl⟩
  rw [← hg3] at H T3
  have hs3 := E3.sz
  generalize W.alloc (.cells (u8s x).toArray 25) = w3 at *
  refine e_op H rfl rfl (by decide) (x_box H rfl rfl bx_new) ?_
  clear H a; intro a H
  have T4 := Blk.new w3 25 (u8s y)
  have E4 := E3.al (.cells (u8s y).toArray 25)
  replace T3 := T3.alloc (.cells (u8s y).toArray 25)
  obtain ⟨g4, hg4⟩ : ∃ g, g = w3.heap.size := ⟨_, rfl⟩
  rw [← hg4] at H T4
  have hs4 := E4.sz
  generalize w3.alloc (.cells (u8s y).toArray 25) = w4 at *
  refine e_op H rfl rfl (by decide) (x_box H rfl rfl bx_new) ?_
  clear H a; intro a H
  have T5 := Blk.new w4 25 (u8s z)
  have E5 := E4.al (.cells (u8s z).toArray 25)
  replace T3 := T3.alloc (.cells (u8s z).toArray 25)
  replace T4 := T4.alloc (.cells (u8s z).toArray 25)
  obtain ⟨g5, hg5⟩ : ∃ g, g = w4.heap.size := ⟨_, rfl⟩
  rw [← hg5] at H T5
  have hs5 := E5.sz
  generalize w4.alloc (.cells (u8s z).toArray 25) = w5 at *
  refine e_op H rfl rfl (by decide) (x_assign H rfl rfl) ?_
  clear H a; intro a H
  refine e_nil (hR.out _ _ ?_)
  clear hR R
  refine hK1 _ _ ?_
  clear hK1 K1
  refine wp_seq_k (fun K2 hK2 => ?_)
  refine wp_seq_k (fun K3 hK3 => ?_)
  refine e_region (fun R hR => ?_)
  refine e_callq H rfl rfl (by decide) rfl rfl (Tryd.call14 _) (awake_any w5 (K0.ext E5) (by omega)) ?_
  clear H a
  rintro e w1 ⟨rfl, E51⟩
  refine ⟨_, rfl, fun a H => ?_⟩
  replace T3 := T3.ext E51
  replace T4 := T4.ext E51
  replace T5 := T5.ext E51
  have E1 := E5.tr E51
  clear E3 E4 E51 E5
  refine e_op H rfl rfl (by decide) (x_un H rfl rfl (u_not (c := false) (rfl))) ?_
  clear H a; intro a H
  refine e_nil (hR.out _ _ ?_)
  clear hR R
  refine hK3 _ _ ?_
  clear hK3 K3
  refine c_false H rfl ?_
  refine wp_skip ?_
  refine hK2 _ _ ?_
  clear hK2 K2
  refine wp_seq_k (fun K4 hK4 => ?_)
  refine Code.wp_mono (Q := fun e a w => e = Exit.normal ∧ ∃ g7 g8 g9, Has a 59 [(3, .pointer (some ⟨g3, 0, none⟩)), (4, .pointer (some ⟨g4, 0, none⟩)), (5, .pointer (some ⟨g5, 0, none⟩)), (7, .pointer (some ⟨g7, 0, none⟩)), (8, .pointer (some ⟨g8, 0, none⟩)), (9, .pointer (some ⟨g9, 0, none⟩))] ∧ Blk w g3 25 (u8s x) ∧ Blk w g4 25 (u8s y) ∧ Blk w g5 25 (u8s z) ∧ Blk w g7 26 (u8s x) ∧ Blk w g8 26 (u8s y) ∧ Blk w g9 26 (u8s z) ∧ Ext W w) (fun e a w hM => ?_) ?_
  · skip
    clear H T3 T4 T5 E1
    obtain ⟨rfl, g7, g8, g9, H, T3, T4, T5, T7, T8, T9, E1⟩ := hM
    refine hK4 _ _ ?_
    clear hK4 K4
    refine wp_seq_k (fun K5 hK5 => ?_)
    refine h_start (by kernel_rfl) (fun R hR => ?_)
    replace T3 : Blk w.drew g3 25 (u8s x) := T3
    replace T4 : Blk w.drew g4 25 (u8s y) := T4
    replace T5 : Blk w.drew g5 25 (u8s z) := T5
    replace T7 : Blk w.drew g7 26 (u8s x) := T7
    replace T8 : Blk w.drew g8 26 (u8s y) := T8
    replace T9 : Blk w.drew g9 26 (u8s z) := T9
    replace E1 := E1.dr
    generalize w.drew = w at *
    refine h_take 0 H rfl rfl rfl (by decide) (by kernel_rfl) (by kernel_rfl) (by kernel_rfl) (fun w' hSw => (x_load H rfl rfl (l_row (T7.ext hSw) Tryd.underlying26 rfl (by rw [size_d x hx]; kernel_rfl)))) ?_
    clear H a; intro a H
    refine h_take 1 H rfl rfl rfl (by decide) (by kernel_rfl) (by kernel_rfl) (by kernel_rfl) (fun w' hSw => (x_load H rfl rfl (l_row (T8.ext hSw) Tryd.underlying26 rfl (by rw [size_d y hy]; kernel_rfl)))) ?_
    clear H a; intro a H
    refine h_take 3 H rfl rfl rfl (by decide) (by kernel_rfl) (by kernel_rfl) (by kernel_rfl) (fun w' hSw => (x_load H rfl rfl (l_row (T3.ext hSw) Tryd.underlying25 rfl (by rw [size_d x hx]; kernel_rfl)))) ?_
    clear H a; intro a H
    refine h_take 4 H rfl rfl rfl (by decide) (by kernel_rfl) (by kernel_rfl) (by kernel_rfl) (fun w' hSw => (x_load H rfl rfl (l_row (T4.ext hSw) Tryd.underlying25 rfl (by rw [size_d y hy]; kernel_rfl)))) ?_
    clear H a; intro a H
    refine h_call 2 H rfl (by kernel_rfl) (wanted_none rfl) rfl (by decide) rfl rfl (Tryd.call22 _) (less_any x y hx hy true hxy _) ?_
    clear H a
    rintro e w20 ⟨rfl, EE⟩
    refine ⟨_, rfl, EE, fun a H => ?_⟩
    replace T3 := T3.ext EE
    replace T4 := T4.ext EE
    replace T5 := T5.ext EE
    replace T7 := T7.ext EE
    replace T8 := T8.ext EE
    replace T9 := T9.ext EE
    replace E1 := E1.tr EE
    clear EE
    refine h_call 5 H rfl (by kernel_rfl) (wanted_none rfl) rfl (by decide) rfl rfl (Tryd.call23 _) (refless_any x y hx hy true hxy _) ?_
    clear H a
    rintro e w21 ⟨rfl, EE⟩
    refine ⟨_, rfl, EE, fun a H => ?_⟩
    replace T3 := T3.ext EE
    replace T4 := T4.ext EE
    replace T5 := T5.ext EE
    replace T7 := T7.ext EE
    replace T8 := T8.ext EE
    replace T9 := T9.ext EE
    replace E1 := E1.tr EE
    clear EE
    refine h_take 6 H rfl rfl rfl (by decide) (by kernel_rfl) (by kernel_rfl) (by kernel_rfl) (fun w' hSw => (x_bin H rfl rfl rfl eqg4 (eqb4 (c := true) rfl))) ?_
    clear H a; intro a H
    refine h_take 7 H rfl rfl rfl (by decide) (by kernel_rfl) (by kernel_rfl) (by kernel_rfl) (fun w' hSw => (x_move H rfl rfl)) ?_
    clear H a; intro a H
    refine h_takeg 8 H rfl (wanted_true H rfl rfl rfl rfl) rfl (by decide) (by kernel_rfl) (by kernel_rfl) (by kernel_rfl) (fun w' hSw => (x_load H rfl rfl (l_row (T7.ext hSw) Tryd.underlying26 rfl (by rw [size_d x hx]; kernel_rfl)))) ?_
    clear H a; intro a H
    refine h_takeg 9 H rfl (wanted_true H rfl rfl rfl rfl) rfl (by decide) (by kernel_rfl) (by kernel_rfl) (by kernel_rfl) (fun w' hSw => (x_load H rfl rfl (l_row (T7.ext hSw) Tryd.underlying26 rfl (by rw [size_d x hx]; kernel_rfl)))) ?_
    clear H a; intro a H
    refine h_call 10 H rfl (by kernel_rfl) (wanted_true H rfl rfl rfl rfl) rfl (by decide) rfl rfl (Tryd.call22 _) (less_any x x hx hx false (blt_irr x) _) ?_
    clear H a
    rintro e w22 ⟨rfl, EE⟩
    refine ⟨_, rfl, EE, fun a H => ?_⟩
    replace T3 := T3.ext EE
    replace T4 := T4.ext EE
    replace T5 := T5.ext EE
    replace T7 := T7.ext EE
    replace T8 := T8.ext EE
    replace T9 := T9.ext EE
    replace E1 := E1.tr EE
    clear EE
    refine h_takeg 11 H rfl (wanted_true H rfl rfl rfl rfl) rfl (by decide) (by kernel_rfl) (by kernel_rfl) (by kernel_rfl) (fun w' hSw => (x_un H rfl rfl (u_not (c := true) (rfl)))) ?_
    clear H a; intro a H
    refine h_take 12 H rfl rfl rfl (by decide) (by kernel_rfl) (by kernel_rfl) (by kernel_rfl) (fun w' hSw => (x_pickT H rfl rfl rfl)) ?_
    clear H a; intro a H
    refine h_take 13 H rfl rfl rfl (by decide) (by kernel_rfl) (by kernel_rfl) (by kernel_rfl) (fun w' hSw => (x_move H rfl rfl)) ?_
    clear H a; intro a H
    refine h_takeg 14 H rfl (wanted_true H rfl rfl rfl rfl) rfl (by decide) (by kernel_rfl) (by kernel_rfl) (by kernel_rfl) (fun w' hSw => (x_load H rfl rfl (l_row (T7.ext hSw) Tryd.underlying26 rfl (by rw [size_d x hx]; kernel_rfl)))) ?_
    clear H a; intro a H
    refine h_takeg 15 H rfl (wanted_true H rfl rfl rfl rfl) rfl (by decide) (by kernel_rfl) (by kernel_rfl) (by kernel_rfl) (fun w' hSw => (x_load H rfl rfl (l_row (T8.ext hSw) Tryd.underlying26 rfl (by rw [size_d y hy]; kernel_rfl)))) ?_
    clear H a; intro a H
    refine h_takeg 16 H rfl (wanted_true H rfl rfl rfl rfl) rfl (by decide) (by kernel_rfl) (by kernel_rfl) (by kernel_rfl) (fun w' hSw => (x_bin H rfl rfl rfl eqg26 (eql26 (c := false) hx hy (by simpa using hc)))) ?_
    clear H a; intro a H
    refine h_takeg 17 H rfl (wanted_true H rfl rfl rfl rfl) rfl (by decide) (by kernel_rfl) (by kernel_rfl) (by kernel_rfl) (fun w' hSw => (x_move H rfl rfl)) ?_
    clear H a; intro a H
    refine h_takeg 18 H rfl (wanted_true H rfl rfl rfl rfl) rfl (by decide) (by kernel_rfl) (by kernel_rfl) (by kernel_rfl) (fun w' hSw => (x_load H rfl rfl (l_row (T7.ext hSw) Tryd.underlying26 rfl (by rw [size_d x hx]; kernel_rfl)))) ?_
    clear H a; intro a H
    refine h_takeg 19 H rfl (wanted_true H rfl rfl rfl rfl) rfl (by decide) (by kernel_rfl) (by kernel_rfl) (by kernel_rfl) (fun w' hSw => (x_load H rfl rfl (l_row (T8.ext hSw) Tryd.underlying26 rfl (by rw [size_d y hy]; kernel_rfl)))) ?_
    clear H a; intro a H
    refine h_takeg 21 H rfl (wanted_true H rfl rfl rfl rfl) rfl (by decide) (by kernel_rfl) (by kernel_rfl) (by kernel_rfl) (fun w' hSw => (x_load H rfl rfl (l_row (T8.ext hSw) Tryd.underlying26 rfl (by rw [size_d y hy]; kernel_rfl)))) ?_
    clear H a; intro a H
    refine h_takeg 22 H rfl (wanted_true H rfl rfl rfl rfl) rfl (by decide) (by kernel_rfl) (by kernel_rfl) (by kernel_rfl) (fun w' hSw => (x_load H rfl rfl (l_row (T7.ext hSw) Tryd.underlying26 rfl (by rw [size_d x hx]; kernel_rfl)))) ?_
    clear H a; intro a H
    refine h_call 20 H rfl (by kernel_rfl) (wanted_true H rfl rfl rfl rfl) rfl (by decide) rfl rfl (Tryd.call22 _) (less_any x y hx hy true hxy _) ?_
    clear H a
    rintro e w23 ⟨rfl, EE⟩
    refine ⟨_, rfl, EE, fun a H => ?_⟩
    replace T3 := T3.ext EE
    replace T4 := T4.ext EE
    replace T5 := T5.ext EE
    replace T7 := T7.ext EE
    replace T8 := T8.ext EE
    replace T9 := T9.ext EE
    replace E1 := E1.tr EE
    clear EE
    refine h_call 23 H rfl (by kernel_rfl) (wanted_true H rfl rfl rfl rfl) rfl (by decide) rfl rfl (Tryd.call22 _) (less_any y x hy hx false hyx _) ?_
    clear H a
    rintro e w24 ⟨rfl, EE⟩
    refine ⟨_, rfl, EE, fun a H => ?_⟩
    replace T3 := T3.ext EE
    replace T4 := T4.ext EE
    replace T5 := T5.ext EE
    replace T7 := T7.ext EE
    replace T8 := T8.ext EE
    replace T9 := T9.ext EE
    replace E1 := E1.tr EE
    clear EE
    refine h_takeg 24 H rfl (wanted_true H rfl rfl rfl rfl) rfl (by decide) (by kernel_rfl) (by kernel_rfl) (by kernel_rfl) (fun w' hSw => (x_bin H rfl rfl rfl eqn4 (neb4 (c := true) rfl))) ?_
    clear H a; intro a H
    refine h_takeg 25 H rfl (wanted_true H rfl rfl rfl rfl) rfl (by decide) (by kernel_rfl) (by kernel_rfl) (by kernel_rfl) (fun w' hSw => (x_pickF H rfl rfl rfl)) ?_
    clear H a; intro a H
    refine h_take 26 H rfl rfl rfl (by decide) (by kernel_rfl) (by kernel_rfl) (by kernel_rfl) (fun w' hSw => (x_pickT H rfl rfl rfl)) ?_
    clear H a; intro a H
    refine h_take 27 H rfl rfl rfl (by decide) (by kernel_rfl) (by kernel_rfl) (by kernel_rfl) (fun w' hSw => (x_move H rfl rfl)) ?_
    clear H a; intro a H
    refine h_takeg 28 H rfl (wanted_true H rfl rfl rfl rfl) rfl (by decide) (by kernel_rfl) (by kernel_rfl) (by kernel_rfl) (fun w' hSw => (x_load H rfl rfl (l_row (T7.ext hSw) Tryd.underlying26 rfl (by rw [size_d x hx]; kernel_rfl)))) ?_
    clear H a; intro a H
    refine h_takeg 29 H rfl (wanted_true H rfl rfl rfl rfl) rfl (by decide) (by kernel_rfl) (by kernel_rfl) (by kernel_rfl) (fun w' hSw => (x_load H rfl rfl (l_row (T8.ext hSw) Tryd.underlying26 rfl (by rw [size_d y hy]; kernel_rfl)))) ?_
    clear H a; intro a H
    refine h_call 30 H rfl (by kernel_rfl) (wanted_true H rfl rfl rfl rfl) rfl (by decide) rfl rfl (Tryd.call22 _) (less_any x y hx hy true hxy _) ?_
    clear H a
    rintro e w25 ⟨rfl, EE⟩
    refine ⟨_, rfl, EE, fun a H => ?_⟩
    replace T3 := T3.ext EE
    replace T4 := T4.ext EE
    replace T5 := T5.ext EE
    replace T7 := T7.ext EE
    replace T8 := T8.ext EE
    replace T9 := T9.ext EE
    replace E1 := E1.tr EE
    clear EE
    refine h_takeg 31 H rfl (wanted_true H rfl rfl rfl rfl) rfl (by decide) (by kernel_rfl) (by kernel_rfl) (by kernel_rfl) (fun w' hSw => (x_un H rfl rfl (u_not (c := false) (rfl)))) ?_
    clear H a; intro a H
    refine h_takeg 32 H rfl (wanted_true H rfl rfl rfl rfl) rfl (by decide) (by kernel_rfl) (by kernel_rfl) (by kernel_rfl) (fun w' hSw => (x_move H rfl rfl)) ?_
    clear H a; intro a H
    refine h_takeg 33 H rfl (wanted_true H rfl rfl rfl rfl) rfl (by decide) (by kernel_rfl) (by kernel_rfl) (by kernel_rfl) (fun w' hSw => (x_load H rfl rfl (l_row (T8.ext hSw) Tryd.underlying26 rfl (by rw [size_d y hy]; kernel_rfl)))) ?_
    clear H a; intro a H
    refine h_takeg 34 H rfl (wanted_true H rfl rfl rfl rfl) rfl (by decide) (by kernel_rfl) (by kernel_rfl) (by kernel_rfl) (fun w' hSw => (x_load H rfl rfl (l_row (T9.ext hSw) Tryd.underlying26 rfl (by rw [size_d z hz]; kernel_rfl)))) ?_
    clear H a; intro a H
    refine h_call 35 H rfl (by kernel_rfl) (wanted_true H rfl rfl rfl rfl) rfl (by decide) rfl rfl (Tryd.call22 _) (less_any y z hy hz false hyz _) ?_
    clear H a
    rintro e w26 ⟨rfl, EE⟩
    refine ⟨_, rfl, EE, fun a H => ?_⟩
    replace T3 := T3.ext EE
    replace T4 := T4.ext EE
    replace T5 := T5.ext EE
    replace T7 := T7.ext EE
    replace T8 := T8.ext EE
    replace T9 := T9.ext EE
    replace E1 := E1.tr EE
    clear EE
    refine h_takeg 36 H rfl (wanted_true H rfl rfl rfl rfl) rfl (by decide) (by kernel_rfl) (by kernel_rfl) (by kernel_rfl) (fun w' hSw => (x_un H rfl rfl (u_not (c := true) (rfl)))) ?_
    clear H a; intro a H
    refine h_takeg 37 H rfl (wanted_true H rfl rfl rfl rfl) rfl (by decide) (by kernel_rfl) (by kernel_rfl) (by kernel_rfl) (fun w' hSw => (x_pickF H rfl rfl rfl)) ?_
    clear H a; intro a H
    refine h_takeg 38 H rfl (wanted_true H rfl rfl rfl rfl) rfl (by decide) (by kernel_rfl) (by kernel_rfl) (by kernel_rfl) (fun w' hSw => (x_move H rfl rfl)) ?_
    clear H a; intro a H
    refine h_skip 39 H rfl (wanted_false H rfl rfl rfl rfl) rfl (by decide) (by kernel_rfl) (by kernel_rfl) (by kernel_rfl) ?_
    clear H a; intro a H
    refine h_skip 40 H rfl (wanted_false H rfl rfl rfl rfl) rfl (by decide) (by kernel_rfl) (by kernel_rfl) (by kernel_rfl) ?_
    clear H a; intro a H
    refine h_skip 41 H rfl (wanted_false H rfl rfl rfl rfl) rfl (by decide) (by kernel_rfl) (by kernel_rfl) (by kernel_rfl) ?_
    clear H a; intro a H
    refine h_takeg 42 H rfl (wanted_true H rfl rfl rfl rfl) rfl (by decide) (by kernel_rfl) (by kernel_rfl) (by kernel_rfl) (fun w' hSw => (x_pickT H rfl rfl rfl)) ?_
    clear H a; intro a H
    refine h_take 43 H rfl rfl rfl (by decide) (by kernel_rfl) (by kernel_rfl) (by kernel_rfl) (fun w' hSw => (x_pickT H rfl rfl rfl)) ?_
    clear H a; intro a H
    refine h_take 44 H rfl rfl rfl (by decide) (by kernel_rfl) (by kernel_rfl) (by kernel_rfl) (fun w' hSw => (x_assign H rfl rfl)) ?_
    clear H a; intro a H
    refine h_done (by kernel_rfl) (hR.out _ _ ?_)
    clear hR R
    refine hK5 _ _ ?_
    clear hK5 K5
    refine wp_ret ?_
    exact ret1 H rfl rfl ⟨rfl, E1⟩
  · skip
    refine h_start (by kernel_rfl) (fun R hR => ?_)
    have U3 : Blk w1.drew g3 25 (u8s x) := T3
    have U4 : Blk w1.drew g4 25 (u8s y) := T4
    have U5 : Blk w1.drew g5 25 (u8s z) := T5
    have EW := E1.dr
    clear T3 T4 T5 E1
    obtain ⟨w0, hw0⟩ : ∃ w0, w0 = w1.drew := ⟨_, rfl⟩
    rw [← hw0] at U3 U4 U5 EW ⊢
    have h30 := U3.lt
    have h40 := U4.lt
    have h50 := U5.lt
    have EV := Ext.refl w0
    refine h_take 0 H rfl rfl rfl (by decide) (by kernel_rfl) (by kernel_rfl) (by kernel_rfl) (fun w' hSw => (x_load H rfl rfl (l_row (U3.ext hSw) Tryd.underlying25 rfl (by rw [size_d x hx]; kernel_rfl)))) ?_
    clear H a; intro a H
    refine h_take 1 H rfl rfl rfl (by decide) (by kernel_rfl) (by kernel_rfl) (by kernel_rfl) (fun w' hSw => (x_load H rfl rfl (l_row (U4.ext hSw) Tryd.underlying25 rfl (by rw [size_d y hy]; kernel_rfl)))) ?_
    clear H a; intro a H
    refine h_take 2 H rfl rfl rfl (by decide) (by kernel_rfl) (by kernel_rfl) (by kernel_rfl) (fun w' hSw => (x_load H rfl rfl (l_row (U5.ext hSw) Tryd.underlying25 rfl (by rw [size_d z hz]; kernel_rfl)))) ?_
    clear H a; intro a H
    refine k_three 3 4 5 H (by kernel_rfl) rfl (wanted_none rfl) rfl (by decide) (x_alloc H rfl (al_new (z26 _))) (EV.al (.cells (u8s (List.replicate 32 0)).toArray 26)) rfl (wanted_none rfl) rfl (by decide) (x_alloc H rfl (al_new (z26 _))) (EV.al (.cells (u8s (List.replicate 32 0)).toArray 26)) rfl (wanted_none rfl) rfl (by decide) (x_alloc H rfl (al_new (z26 _))) (EV.al (.cells (u8s (List.replicate 32 0)).toArray 26)) ?_ ?_ ?_
    · skip
      clear H a; intro a H
      have D7 := Blk.new w0 26 (u8s (List.replicate 32 0))
      have EV0 := EV.al (.cells (u8s (List.replicate 32 0)).toArray 26)
      replace U3 := U3.alloc (.cells (u8s (List.replicate 32 0)).toArray 26)
      replace U4 := U4.alloc (.cells (u8s (List.replicate 32 0)).toArray 26)
      replace U5 := U5.alloc (.cells (u8s (List.replicate 32 0)).toArray 26)
      have hz0 := EV.sz
      obtain ⟨g7, hg7⟩ : ∃ g, g = w0.heap.size := ⟨_, rfl⟩
      rw [← hg7] at H D7
      have hl7 := D7.lt
      generalize hv0 : w0.alloc (.cells (u8s (List.replicate 32 0)).toArray 26) = v0 at *
      refine k_two 4 5 H (by kernel_rfl) rfl (wanted_none rfl) rfl (by decide) (x_alloc H rfl (al_new (z26 _))) (EV0.al (.cells (u8s (List.replicate 32 0)).toArray 26)) rfl (wanted_none rfl) rfl (by decide) (x_alloc H rfl (al_new (z26 _))) (EV0.al (.cells (u8s (List.replicate 32 0)).toArray 26)) ?_ ?_
      · skip
        clear H a; intro a H
        have D8 := Blk.new v0 26 (u8s (List.replicate 32 0))
        have EV1 := EV0.al (.cells (u8s (List.replicate 32 0)).toArray 26)
        replace U3 := U3.alloc (.cells (u8s (List.replicate 32 0)).toArray 26)
        replace U4 := U4.alloc (.cells (u8s (List.replicate 32 0)).toArray 26)
        replace U5 := U5.alloc (.cells (u8s (List.replicate 32 0)).toArray 26)
        replace D7 := D7.alloc (.cells (u8s (List.replicate 32 0)).toArray 26)
        have hz1 := EV0.sz
        obtain ⟨g8, hg8⟩ : ∃ g, g = v0.heap.size := ⟨_, rfl⟩
        rw [← hg8] at H D8
        have hl8 := D8.lt
        generalize hv1 : v0.alloc (.cells (u8s (List.replicate 32 0)).toArray 26) = v1 at *
        have hne34 : g7 ≠ g8 := by omega
        replace hl7 : g7 < v1.heap.size := D7.lt
        refine k_op 5 H rfl (by kernel_rfl) (wanted_none rfl) rfl (by decide) (x_alloc H rfl (al_new (z26 _))) (EV1.al (.cells (u8s (List.replicate 32 0)).toArray 26)) ?_
        clear H a; intro a H
        have D9 := Blk.new v1 26 (u8s (List.replicate 32 0))
        have EV2 := EV1.al (.cells (u8s (List.replicate 32 0)).toArray 26)
        replace U3 := U3.alloc (.cells (u8s (List.replicate 32 0)).toArray 26)
        replace U4 := U4.alloc (.cells (u8s (List.replicate 32 0)).toArray 26)
        replace U5 := U5.alloc (.cells (u8s (List.replicate 32 0)).toArray 26)
        replace D7 := D7.alloc (.cells (u8s (List.replicate 32 0)).toArray 26)
        replace D8 := D8.alloc (.cells (u8s (List.replicate 32 0)).toArray 26)
        have hz2 := EV1.sz
        obtain ⟨g9, hg9⟩ : ∃ g, g = v1.heap.size := ⟨_, rfl⟩
        rw [← hg9] at H D9
        have hl9 := D9.lt
        generalize hv2 : v1.alloc (.cells (u8s (List.replicate 32 0)).toArray 26) = v2 at *
        have hne35 : g7 ≠ g9 := by omega
        have hne45 : g8 ≠ g9 := by omega
        replace hl7 : g7 < v2.heap.size := D7.lt
        replace hl8 : g8 < v2.heap.size := D8.lt
        refine k_st 6 H rfl (by kernel_rfl) (wanted_none rfl) rfl (x_store H rfl rfl rfl (st_row D7 (by show _ = some (u8s x).toArray.size; rw [size_d x hx]; kernel_rfl) (by show _ = (u8s x).toArray.size; rw [size_d x hx]; rfl) (one_u8 _))) (EV2.row_ (g := g7) (by omega) (u8s x).toArray) ?_
        have F7 := EV2.row_ (g := g7) (by omega) (u8s x).toArray
        replace U3 := U3.grown (grown_setRow v2 g7 (u8s x).toArray) (by simp; omega)
        replace U4 := U4.grown (grown_setRow v2 g7 (u8s x).toArray) (by simp; omega)
        replace U5 := U5.grown (grown_setRow v2 g7 (u8s x).toArray) (by simp; omega)
        replace D8 := D8.grown (grown_setRow v2 g7 (u8s x).toArray) (by simp; omega)
        replace D9 := D9.grown (grown_setRow v2 g7 (u8s x).toArray) (by simp; omega)
        replace D7 : Blk (v2.setRow g7 (u8s x).toArray) g7 26 (u8s x) := D7.row (u8s x)
        generalize v2.setRow g7 (u8s x).toArray = s7 at *
        refine k_st 7 H rfl (by kernel_rfl) (wanted_none rfl) rfl (x_store H rfl rfl rfl (st_row D8 (by show _ = some (u8s y).toArray.size; rw [size_d y hy]; kernel_rfl) (by show _ = (u8s y).toArray.size; rw [size_d y hy]; rfl) (one_u8 _))) (F7.row_ (g := g8) (by omega) (u8s y).toArray) ?_
        have F8 := F7.row_ (g := g8) (by omega) (u8s y).toArray
        replace U3 := U3.grown (grown_setRow s7 g8 (u8s y).toArray) (by simp; omega)
        replace U4 := U4.grown (grown_setRow s7 g8 (u8s y).toArray) (by simp; omega)
        replace U5 := U5.grown (grown_setRow s7 g8 (u8s y).toArray) (by simp; omega)
        replace D7 := D7.grown (grown_setRow s7 g8 (u8s y).toArray) (by simp; omega)
        replace D9 := D9.grown (grown_setRow s7 g8 (u8s y).toArray) (by simp; omega)
        replace D8 : Blk (s7.setRow g8 (u8s y).toArray) g8 26 (u8s y) := D8.row (u8s y)
        generalize s7.setRow g8 (u8s y).toArray = s8 at *
        refine k_st 8 H rfl (by kernel_rfl) (wanted_none rfl) rfl (x_store H rfl rfl rfl (st_row D9 (by show _ = some (u8s z).toArray.size; rw [size_d z hz]; kernel_rfl) (by show _ = (u8s z).toArray.size; rw [size_d z hz]; rfl) (one_u8 _))) (F8.row_ (g := g9) (by omega) (u8s z).toArray) ?_
        have F9 := F8.row_ (g := g9) (by omega) (u8s z).toArray
        replace U3 := U3.grown (grown_setRow s8 g9 (u8s z).toArray) (by simp; omega)
        replace U4 := U4.grown (grown_setRow s8 g9 (u8s z).toArray) (by simp; omega)
        replace U5 := U5.grown (grown_setRow s8 g9 (u8s z).toArray) (by simp; omega)
        replace D7 := D7.grown (grown_setRow s8 g9 (u8s z).toArray) (by simp; omega)
        replace D8 := D8.grown (grown_setRow s8 g9 (u8s z).toArray) (by simp; omega)
        replace D9 : Blk (s8.setRow g9 (u8s z).toArray) g9 26 (u8s z) := D9.row (u8s z)
        generalize s8.setRow g9 (u8s z).toArray = s9 at *
        refine k_done (by kernel_rfl) (hR.out _ _ ⟨rfl, g7, g8, g9, H.sub ⟨rfl, rfl, rfl, rfl, rfl, rfl, trivial⟩, U3, U4, U5, D7, D8, D9, EW.tr F9⟩)
      · skip
        clear H a; intro a H
        have D9 := Blk.new v0 26 (u8s (List.replicate 32 0))
        have EV1 := EV0.al (.cells (u8s (List.replicate 32 0)).toArray 26)
        replace U3 := U3.alloc (.cells (u8s (List.replicate 32 0)).toArray 26)
        replace U4 := U4.alloc (.cells (u8s (List.replicate 32 0)).toArray 26)
        replace U5 := U5.alloc (.cells (u8s (List.replicate 32 0)).toArray 26)
        replace D7 := D7.alloc (.cells (u8s (List.replicate 32 0)).toArray 26)
        have hz1 := EV0.sz
        obtain ⟨g9, hg9⟩ : ∃ g, g = v0.heap.size := ⟨_, rfl⟩
        rw [← hg9] at H D9
        have hl9 := D9.lt
        generalize hv1 : v0.alloc (.cells (u8s (List.replicate 32 0)).toArray 26) = v1 at *
        have hne35 : g7 ≠ g9 := by omega
        replace hl7 : g7 < v1.heap.size := D7.lt
        refine k_op 4 H rfl (by kernel_rfl) (wanted_none rfl) rfl (by decide) (x_alloc H rfl (al_new (z26 _))) (EV1.al (.cells (u8s (List.replicate 32 0)).toArray 26)) ?_
        clear H a; intro a H
        have D8 := Blk.new v1 26 (u8s (List.replicate 32 0))
        have EV2 := EV1.al (.cells (u8s (List.replicate 32 0)).toArray 26)
        replace U3 := U3.alloc (.cells (u8s (List.replicate 32 0)).toArray 26)
        replace U4 := U4.alloc (.cells (u8s (List.replicate 32 0)).toArray 26)
        replace U5 := U5.alloc (.cells (u8s (List.replicate 32 0)).toArray 26)
        replace D7 := D7.alloc (.cells (u8s (List.replicate 32 0)).toArray 26)
        replace D9 := D9.alloc (.cells (u8s (List.replicate 32 0)).toArray 26)
        have hz2 := EV1.sz
        obtain ⟨g8, hg8⟩ : ∃ g, g = v1.heap.size := ⟨_, rfl⟩
        rw [← hg8] at H D8
        have hl8 := D8.lt
        generalize hv2 : v1.alloc (.cells (u8s (List.replicate 32 0)).toArray 26) = v2 at *
        have hne34 : g7 ≠ g8 := by omega
        have hne54 : g9 ≠ g8 := by omega
        replace hl7 : g7 < v2.heap.size := D7.lt
        replace hl9 : g9 < v2.heap.size := D9.lt
        refine k_st 6 H rfl (by kernel_rfl) (wanted_none rfl) rfl (x_store H rfl rfl rfl (st_row D7 (by show _ = some (u8s x).toArray.size; rw [size_d x hx]; kernel_rfl) (by show _ = (u8s x).toArray.size; rw [size_d x hx]; rfl) (one_u8 _))) (EV2.row_ (g := g7) (by omega) (u8s x).toArray) ?_
        have F7 := EV2.row_ (g := g7) (by omega) (u8s x).toArray
        replace U3 := U3.grown (grown_setRow v2 g7 (u8s x).toArray) (by simp; omega)
        replace U4 := U4.grown (grown_setRow v2 g7 (u8s x).toArray) (by simp; omega)
        replace U5 := U5.grown (grown_setRow v2 g7 (u8s x).toArray) (by simp; omega)
        replace D8 := D8.grown (grown_setRow v2 g7 (u8s x).toArray) (by simp; omega)
        replace D9 := D9.grown (grown_setRow v2 g7 (u8s x).toArray) (by simp; omega)
        replace D7 : Blk (v2.setRow g7 (u8s x).toArray) g7 26 (u8s x) := D7.row (u8s x)
        generalize v2.setRow g7 (u8s x).toArray = s7 at *
        refine k_st 7 H rfl (by kernel_rfl) (wanted_none rfl) rfl (x_store H rfl rfl rfl (st_row D8 (by show _ = some (u8s y).toArray.size; rw [size_d y hy]; kernel_rfl) (by show _ = (u8s y).toArray.size; rw [size_d y hy]; rfl) (one_u8 _))) (F7.row_ (g := g8) (by omega) (u8s y).toArray) ?_
        have F8 := F7.row_ (g := g8) (by omega) (u8s y).toArray
        replace U3 := U3.grown (grown_setRow s7 g8 (u8s y).toArray) (by simp; omega)
        replace U4 := U4.grown (grown_setRow s7 g8 (u8s y).toArray) (by simp; omega)
        replace U5 := U5.grown (grown_setRow s7 g8 (u8s y).toArray) (by simp; omega)
        replace D7 := D7.grown (grown_setRow s7 g8 (u8s y).toArray) (by simp; omega)
        replace D9 := D9.grown (grown_setRow s7 g8 (u8s y).toArray) (by simp; omega)
        replace D8 : Blk (s7.setRow g8 (u8s y).toArray) g8 26 (u8s y) := D8.row (u8s y)
        generalize s7.setRow g8 (u8s y).toArray = s8 at *
        refine k_st 8 H rfl (by kernel_rfl) (wanted_none rfl) rfl (x_store H rfl rfl rfl (st_row D9 (by show _ = some (u8s z).toArray.size; rw [size_d z hz]; kernel_rfl) (by show _ = (u8s z).toArray.size; rw [size_d z hz]; rfl) (one_u8 _))) (F8.row_ (g := g9) (by omega) (u8s z).toArray) ?_
        have F9 := F8.row_ (g := g9) (by omega) (u8s z).toArray
        replace U3 := U3.grown (grown_setRow s8 g9 (u8s z).toArray) (by simp; omega)
        replace U4 := U4.grown (grown_setRow s8 g9 (u8s z).toArray) (by simp; omega)
        replace U5 := U5.grown (grown_setRow s8 g9 (u8s z).toArray) (by simp; omega)
        replace D7 := D7.grown (grown_setRow s8 g9 (u8s z).toArray) (by simp; omega)
        replace D8 := D8.grown (grown_setRow s8 g9 (u8s z).toArray) (by simp; omega)
        replace D9 : Blk (s8.setRow g9 (u8s z).toArray) g9 26 (u8s z) := D9.row (u8s z)
        generalize s8.setRow g9 (u8s z).toArray = s9 at *
        refine k_done (by kernel_rfl) (hR.out _ _ ⟨rfl, g7, g8, g9, H.sub ⟨rfl, rfl, rfl, rfl, rfl, rfl, trivial⟩, U3, U4, U5, D7, D8, D9, EW.tr F9⟩)
    · skip
      clear H a; intro a H
      have D8 := Blk.new w0 26 (u8s (List.replicate 32 0))
      have EV0 := EV.al (.cells (u8s (List.replicate 32 0)).toArray 26)
      replace U3 := U3.alloc (.cells (u8s (List.replicate 32 0)).toArray 26)
      replace U4 := U4.alloc (.cells (u8s (List.replicate 32 0)).toArray 26)
      replace U5 := U5.alloc (.cells (u8s (List.replicate 32 0)).toArray 26)
      have hz0 := EV.sz
      obtain ⟨g8, hg8⟩ : ∃ g, g = w0.heap.size := ⟨_, rfl⟩
      rw [← hg8] at H D8
      have hl8 := D8.lt
      generalize hv0 : w0.alloc (.cells (u8s (List.replicate 32 0)).toArray 26) = v0 at *
      refine k_two 3 5 H (by kernel_rfl) rfl (wanted_none rfl) rfl (by decide) (x_alloc H rfl (al_new (z26 _))) (EV0.al (.cells (u8s (List.replicate 32 0)).toArray 26)) rfl (wanted_none rfl) rfl (by decide) (x_alloc H rfl (al_new (z26 _))) (EV0.al (.cells (u8s (List.replicate 32 0)).toArray 26)) ?_ ?_
      · skip
        clear H a; intro a H
        have D7 := Blk.new v0 26 (u8s (List.replicate 32 0))
        have EV1 := EV0.al (.cells (u8s (List.replicate 32 0)).toArray 26)
        replace U3 := U3.alloc (.cells (u8s (List.replicate 32 0)).toArray 26)
        replace U4 := U4.alloc (.cells (u8s (List.replicate 32 0)).toArray 26)
        replace U5 := U5.alloc (.cells (u8s (List.replicate 32 0)).toArray 26)
        replace D8 := D8.alloc (.cells (u8s (List.replicate 32 0)).toArray 26)
        have hz1 := EV0.sz
        obtain ⟨g7, hg7⟩ : ∃ g, g = v0.heap.size := ⟨_, rfl⟩
        rw [← hg7] at H D7
        have hl7 := D7.lt
        generalize hv1 : v0.alloc (.cells (u8s (List.replicate 32 0)).toArray 26) = v1 at *
        have hne43 : g8 ≠ g7 := by omega
        replace hl8 : g8 < v1.heap.size := D8.lt
        refine k_op 5 H rfl (by kernel_rfl) (wanted_none rfl) rfl (by decide) (x_alloc H rfl (al_new (z26 _))) (EV1.al (.cells (u8s (List.replicate 32 0)).toArray 26)) ?_
        clear H a; intro a H
        have D9 := Blk.new v1 26 (u8s (List.replicate 32 0))
        have EV2 := EV1.al (.cells (u8s (List.replicate 32 0)).toArray 26)
        replace U3 := U3.alloc (.cells (u8s (List.replicate 32 0)).toArray 26)
        replace U4 := U4.alloc (.cells (u8s (List.replicate 32 0)).toArray 26)
        replace U5 := U5.alloc (.cells (u8s (List.replicate 32 0)).toArray 26)
        replace D8 := D8.alloc (.cells (u8s (List.replicate 32 0)).toArray 26)
        replace D7 := D7.alloc (.cells (u8s (List.replicate 32 0)).toArray 26)
        have hz2 := EV1.sz
        obtain ⟨g9, hg9⟩ : ∃ g, g = v1.heap.size := ⟨_, rfl⟩
        rw [← hg9] at H D9
        have hl9 := D9.lt
        generalize hv2 : v1.alloc (.cells (u8s (List.replicate 32 0)).toArray 26) = v2 at *
        have hne45 : g8 ≠ g9 := by omega
        have hne35 : g7 ≠ g9 := by omega
        replace hl8 : g8 < v2.heap.size := D8.lt
        replace hl7 : g7 < v2.heap.size := D7.lt
        refine k_st 6 H rfl (by kernel_rfl) (wanted_none rfl) rfl (x_store H rfl rfl rfl (st_row D7 (by show _ = some (u8s x).toArray.size; rw [size_d x hx]; kernel_rfl) (by show _ = (u8s x).toArray.size; rw [size_d x hx]; rfl) (one_u8 _))) (EV2.row_ (g := g7) (by omega) (u8s x).toArray) ?_
        have F7 := EV2.row_ (g := g7) (by omega) (u8s x).toArray
        replace U3 := U3.grown (grown_setRow v2 g7 (u8s x).toArray) (by simp; omega)
        replace U4 := U4.grown (grown_setRow v2 g7 (u8s x).toArray) (by simp; omega)
        replace U5 := U5.grown (grown_setRow v2 g7 (u8s x).toArray) (by simp; omega)
        replace D8 := D8.grown (grown_setRow v2 g7 (u8s x).toArray) (by simp; omega)
        replace D9 := D9.grown (grown_setRow v2 g7 (u8s x).toArray) (by simp; omega)
        replace D7 : Blk (v2.setRow g7 (u8s x).toArray) g7 26 (u8s x) := D7.row (u8s x)
        generalize v2.setRow g7 (u8s x).toArray = s7 at *
        refine k_st 7 H rfl (by kernel_rfl) (wanted_none rfl) rfl (x_store H rfl rfl rfl (st_row D8 (by show _ = some (u8s y).toArray.size; rw [size_d y hy]; kernel_rfl) (by show _ = (u8s y).toArray.size; rw [size_d y hy]; rfl) (one_u8 _))) (F7.row_ (g := g8) (by omega) (u8s y).toArray) ?_
        have F8 := F7.row_ (g := g8) (by omega) (u8s y).toArray
        replace U3 := U3.grown (grown_setRow s7 g8 (u8s y).toArray) (by simp; omega)
        replace U4 := U4.grown (grown_setRow s7 g8 (u8s y).toArray) (by simp; omega)
        replace U5 := U5.grown (grown_setRow s7 g8 (u8s y).toArray) (by simp; omega)
        replace D7 := D7.grown (grown_setRow s7 g8 (u8s y).toArray) (by simp; omega)
        replace D9 := D9.grown (grown_setRow s7 g8 (u8s y).toArray) (by simp; omega)
        replace D8 : Blk (s7.setRow g8 (u8s y).toArray) g8 26 (u8s y) := D8.row (u8s y)
        generalize s7.setRow g8 (u8s y).toArray = s8 at *
        refine k_st 8 H rfl (by kernel_rfl) (wanted_none rfl) rfl (x_store H rfl rfl rfl (st_row D9 (by show _ = some (u8s z).toArray.size; rw [size_d z hz]; kernel_rfl) (by show _ = (u8s z).toArray.size; rw [size_d z hz]; rfl) (one_u8 _))) (F8.row_ (g := g9) (by omega) (u8s z).toArray) ?_
        have F9 := F8.row_ (g := g9) (by omega) (u8s z).toArray
        replace U3 := U3.grown (grown_setRow s8 g9 (u8s z).toArray) (by simp; omega)
        replace U4 := U4.grown (grown_setRow s8 g9 (u8s z).toArray) (by simp; omega)
        replace U5 := U5.grown (grown_setRow s8 g9 (u8s z).toArray) (by simp; omega)
        replace D7 := D7.grown (grown_setRow s8 g9 (u8s z).toArray) (by simp; omega)
        replace D8 := D8.grown (grown_setRow s8 g9 (u8s z).toArray) (by simp; omega)
        replace D9 : Blk (s8.setRow g9 (u8s z).toArray) g9 26 (u8s z) := D9.row (u8s z)
        generalize s8.setRow g9 (u8s z).toArray = s9 at *
        refine k_done (by kernel_rfl) (hR.out _ _ ⟨rfl, g7, g8, g9, H.sub ⟨rfl, rfl, rfl, rfl, rfl, rfl, trivial⟩, U3, U4, U5, D7, D8, D9, EW.tr F9⟩)
      · skip
        clear H a; intro a H
        have D9 := Blk.new v0 26 (u8s (List.replicate 32 0))
        have EV1 := EV0.al (.cells (u8s (List.replicate 32 0)).toArray 26)
        replace U3 := U3.alloc (.cells (u8s (List.replicate 32 0)).toArray 26)
        replace U4 := U4.alloc (.cells (u8s (List.replicate 32 0)).toArray 26)
        replace U5 := U5.alloc (.cells (u8s (List.replicate 32 0)).toArray 26)
        replace D8 := D8.alloc (.cells (u8s (List.replicate 32 0)).toArray 26)
        have hz1 := EV0.sz
        obtain ⟨g9, hg9⟩ : ∃ g, g = v0.heap.size := ⟨_, rfl⟩
        rw [← hg9] at H D9
        have hl9 := D9.lt
        generalize hv1 : v0.alloc (.cells (u8s (List.replicate 32 0)).toArray 26) = v1 at *
        have hne45 : g8 ≠ g9 := by omega
        replace hl8 : g8 < v1.heap.size := D8.lt
        refine k_op 3 H rfl (by kernel_rfl) (wanted_none rfl) rfl (by decide) (x_alloc H rfl (al_new (z26 _))) (EV1.al (.cells (u8s (List.replicate 32 0)).toArray 26)) ?_
        clear H a; intro a H
        have D7 := Blk.new v1 26 (u8s (List.replicate 32 0))
        have EV2 := EV1.al (.cells (u8s (List.replicate 32 0)).toArray 26)
        replace U3 := U3.alloc (.cells (u8s (List.replicate 32 0)).toArray 26)
        replace U4 := U4.alloc (.cells (u8s (List.replicate 32 0)).toArray 26)
        replace U5 := U5.alloc (.cells (u8s (List.replicate 32 0)).toArray 26)
        replace D8 := D8.alloc (.cells (u8s (List.replicate 32 0)).toArray 26)
        replace D9 := D9.alloc (.cells (u8s (List.replicate 32 0)).toArray 26)
        have hz2 := EV1.sz
        obtain ⟨g7, hg7⟩ : ∃ g, g = v1.heap.size := ⟨_, rfl⟩
        rw [← hg7] at H D7
        have hl7 := D7.lt
        generalize hv2 : v1.alloc (.cells (u8s (List.replicate 32 0)).toArray 26) = v2 at *
        have hne43 : g8 ≠ g7 := by omega
        have hne53 : g9 ≠ g7 := by omega
        replace hl8 : g8 < v2.heap.size := D8.lt
        replace hl9 : g9 < v2.heap.size := D9.lt
        refine k_st 6 H rfl (by kernel_rfl) (wanted_none rfl) rfl (x_store H rfl rfl rfl (st_row D7 (by show _ = some (u8s x).toArray.size; rw [size_d x hx]; kernel_rfl) (by show _ = (u8s x).toArray.size; rw [size_d x hx]; rfl) (one_u8 _))) (EV2.row_ (g := g7) (by omega) (u8s x).toArray) ?_
        have F7 := EV2.row_ (g := g7) (by omega) (u8s x).toArray
        replace U3 := U3.grown (grown_setRow v2 g7 (u8s x).toArray) (by simp; omega)
        replace U4 := U4.grown (grown_setRow v2 g7 (u8s x).toArray) (by simp; omega)
        replace U5 := U5.grown (grown_setRow v2 g7 (u8s x).toArray) (by simp; omega)
        replace D8 := D8.grown (grown_setRow v2 g7 (u8s x).toArray) (by simp; omega)
        replace D9 := D9.grown (grown_setRow v2 g7 (u8s x).toArray) (by simp; omega)
        replace D7 : Blk (v2.setRow g7 (u8s x).toArray) g7 26 (u8s x) := D7.row (u8s x)
        generalize v2.setRow g7 (u8s x).toArray = s7 at *
        refine k_st 7 H rfl (by kernel_rfl) (wanted_none rfl) rfl (x_store H rfl rfl rfl (st_row D8 (by show _ = some (u8s y).toArray.size; rw [size_d y hy]; kernel_rfl) (by show _ = (u8s y).toArray.size; rw [size_d y hy]; rfl) (one_u8 _))) (F7.row_ (g := g8) (by omega) (u8s y).toArray) ?_
        have F8 := F7.row_ (g := g8) (by omega) (u8s y).toArray
        replace U3 := U3.grown (grown_setRow s7 g8 (u8s y).toArray) (by simp; omega)
        replace U4 := U4.grown (grown_setRow s7 g8 (u8s y).toArray) (by simp; omega)
        replace U5 := U5.grown (grown_setRow s7 g8 (u8s y).toArray) (by simp; omega)
        replace D7 := D7.grown (grown_setRow s7 g8 (u8s y).toArray) (by simp; omega)
        replace D9 := D9.grown (grown_setRow s7 g8 (u8s y).toArray) (by simp; omega)
        replace D8 : Blk (s7.setRow g8 (u8s y).toArray) g8 26 (u8s y) := D8.row (u8s y)
        generalize s7.setRow g8 (u8s y).toArray = s8 at *
        refine k_st 8 H rfl (by kernel_rfl) (wanted_none rfl) rfl (x_store H rfl rfl rfl (st_row D9 (by show _ = some (u8s z).toArray.size; rw [size_d z hz]; kernel_rfl) (by show _ = (u8s z).toArray.size; rw [size_d z hz]; rfl) (one_u8 _))) (F8.row_ (g := g9) (by omega) (u8s z).toArray) ?_
        have F9 := F8.row_ (g := g9) (by omega) (u8s z).toArray
        replace U3 := U3.grown (grown_setRow s8 g9 (u8s z).toArray) (by simp; omega)
        replace U4 := U4.grown (grown_setRow s8 g9 (u8s z).toArray) (by simp; omega)
        replace U5 := U5.grown (grown_setRow s8 g9 (u8s z).toArray) (by simp; omega)
        replace D7 := D7.grown (grown_setRow s8 g9 (u8s z).toArray) (by simp; omega)
        replace D8 := D8.grown (grown_setRow s8 g9 (u8s z).toArray) (by simp; omega)
        replace D9 : Blk (s8.setRow g9 (u8s z).toArray) g9 26 (u8s z) := D9.row (u8s z)
        generalize s8.setRow g9 (u8s z).toArray = s9 at *
        refine k_done (by kernel_rfl) (hR.out _ _ ⟨rfl, g7, g8, g9, H.sub ⟨rfl, rfl, rfl, rfl, rfl, rfl, trivial⟩, U3, U4, U5, D7, D8, D9, EW.tr F9⟩)
    · skip
      clear H a; intro a H
      have D9 := Blk.new w0 26 (u8s (List.replicate 32 0))
      have EV0 := EV.al (.cells (u8s (List.replicate 32 0)).toArray 26)
      replace U3 := U3.alloc (.cells (u8s (List.replicate 32 0)).toArray 26)
      replace U4 := U4.alloc (.cells (u8s (List.replicate 32 0)).toArray 26)
      replace U5 := U5.alloc (.cells (u8s (List.replicate 32 0)).toArray 26)
      have hz0 := EV.sz
      obtain ⟨g9, hg9⟩ : ∃ g, g = w0.heap.size := ⟨_, rfl⟩
      rw [← hg9] at H D9
      have hl9 := D9.lt
      generalize hv0 : w0.alloc (.cells (u8s (List.replicate 32 0)).toArray 26) = v0 at *
      refine k_two 3 4 H (by kernel_rfl) rfl (wanted_none rfl) rfl (by decide) (x_alloc H rfl (al_new (z26 _))) (EV0.al (.cells (u8s (List.replicate 32 0)).toArray 26)) rfl (wanted_none rfl) rfl (by decide) (x_alloc H rfl (al_new (z26 _))) (EV0.al (.cells (u8s (List.replicate 32 0)).toArray 26)) ?_ ?_
      · skip
        clear H a; intro a H
        have D7 := Blk.new v0 26 (u8s (List.replicate 32 0))
        have EV1 := EV0.al (.cells (u8s (List.replicate 32 0)).toArray 26)
        replace U3 := U3.alloc (.cells (u8s (List.replicate 32 0)).toArray 26)
        replace U4 := U4.alloc (.cells (u8s (List.replicate 32 0)).toArray 26)
        replace U5 := U5.alloc (.cells (u8s (List.replicate 32 0)).toArray 26)
        replace D9 := D9.alloc (.cells (u8s (List.replicate 32 0)).toArray 26)
        have hz1 := EV0.sz
        obtain ⟨g7, hg7⟩ : ∃ g, g = v0.heap.size := ⟨_, rfl⟩
        rw [← hg7] at H D7
        have hl7 := D7.lt
        generalize hv1 : v0.alloc (.cells (u8s (List.replicate 32 0)).toArray 26) = v1 at *
        have hne53 : g9 ≠ g7 := by omega
        replace hl9 : g9 < v1.heap.size := D9.lt
        refine k_op 4 H rfl (by kernel_rfl) (wanted_none rfl) rfl (by decide) (x_alloc H rfl (al_new (z26 _))) (EV1.al (.cells (u8s (List.replicate 32 0)).toArray 26)) ?_
        clear H a; intro a H
        have D8 := Blk.new v1 26 (u8s (List.replicate 32 0))
        have EV2 := EV1.al (.cells (u8s (List.replicate 32 0)).toArray 26)
        replace U3 := U3.alloc (.cells (u8s (List.replicate 32 0)).toArray 26)
        replace U4 := U4.alloc (.cells (u8s (List.replicate 32 0)).toArray 26)
        replace U5 := U5.alloc (.cells (u8s (List.replicate 32 0)).toArray 26)
        replace D9 := D9.alloc (.cells (u8s (List.replicate 32 0)).toArray 26)
        replace D7 := D7.alloc (.cells (u8s (List.replicate 32 0)).toArray 26)
        have hz2 := EV1.sz
        obtain ⟨g8, hg8⟩ : ∃ g, g = v1.heap.size := ⟨_, rfl⟩
        rw [← hg8] at H D8
        have hl8 := D8.lt
        generalize hv2 : v1.alloc (.cells (u8s (List.replicate 32 0)).toArray 26) = v2 at *
        have hne54 : g9 ≠ g8 := by omega
        have hne34 : g7 ≠ g8 := by omega
        replace hl9 : g9 < v2.heap.size := D9.lt
        replace hl7 : g7 < v2.heap.size := D7.lt
        refine k_st 6 H rfl (by kernel_rfl) (wanted_none rfl) rfl (x_store H rfl rfl rfl (st_row D7 (by show _ = some (u8s x).toArray.size; rw [size_d x hx]; kernel_rfl) (by show _ = (u8s x).toArray.size; rw [size_d x hx]; rfl) (one_u8 _))) (EV2.row_ (g := g7) (by omega) (u8s x).toArray) ?_
        have F7 := EV2.row_ (g := g7) (by omega) (u8s x).toArray
        replace U3 := U3.grown (grown_setRow v2 g7 (u8s x).toArray) (by simp; omega)
        replace U4 := U4.grown (grown_setRow v2 g7 (u8s x).toArray) (by simp; omega)
        replace U5 := U5.grown (grown_setRow v2 g7 (u8s x).toArray) (by simp; omega)
        replace D8 := D8.grown (grown_setRow v2 g7 (u8s x).toArray) (by simp; omega)
        replace D9 := D9.grown (grown_setRow v2 g7 (u8s x).toArray) (by simp; omega)
        replace D7 : Blk (v2.setRow g7 (u8s x).toArray) g7 26 (u8s x) := D7.row (u8s x)
        generalize v2.setRow g7 (u8s x).toArray = s7 at *
        refine k_st 7 H rfl (by kernel_rfl) (wanted_none rfl) rfl (x_store H rfl rfl rfl (st_row D8 (by show _ = some (u8s y).toArray.size; rw [size_d y hy]; kernel_rfl) (by show _ = (u8s y).toArray.size; rw [size_d y hy]; rfl) (one_u8 _))) (F7.row_ (g := g8) (by omega) (u8s y).toArray) ?_
        have F8 := F7.row_ (g := g8) (by omega) (u8s y).toArray
        replace U3 := U3.grown (grown_setRow s7 g8 (u8s y).toArray) (by simp; omega)
        replace U4 := U4.grown (grown_setRow s7 g8 (u8s y).toArray) (by simp; omega)
        replace U5 := U5.grown (grown_setRow s7 g8 (u8s y).toArray) (by simp; omega)
        replace D7 := D7.grown (grown_setRow s7 g8 (u8s y).toArray) (by simp; omega)
        replace D9 := D9.grown (grown_setRow s7 g8 (u8s y).toArray) (by simp; omega)
        replace D8 : Blk (s7.setRow g8 (u8s y).toArray) g8 26 (u8s y) := D8.row (u8s y)
        generalize s7.setRow g8 (u8s y).toArray = s8 at *
        refine k_st 8 H rfl (by kernel_rfl) (wanted_none rfl) rfl (x_store H rfl rfl rfl (st_row D9 (by show _ = some (u8s z).toArray.size; rw [size_d z hz]; kernel_rfl) (by show _ = (u8s z).toArray.size; rw [size_d z hz]; rfl) (one_u8 _))) (F8.row_ (g := g9) (by omega) (u8s z).toArray) ?_
        have F9 := F8.row_ (g := g9) (by omega) (u8s z).toArray
        replace U3 := U3.grown (grown_setRow s8 g9 (u8s z).toArray) (by simp; omega)
        replace U4 := U4.grown (grown_setRow s8 g9 (u8s z).toArray) (by simp; omega)
        replace U5 := U5.grown (grown_setRow s8 g9 (u8s z).toArray) (by simp; omega)
        replace D7 := D7.grown (grown_setRow s8 g9 (u8s z).toArray) (by simp; omega)
        replace D8 := D8.grown (grown_setRow s8 g9 (u8s z).toArray) (by simp; omega)
        replace D9 : Blk (s8.setRow g9 (u8s z).toArray) g9 26 (u8s z) := D9.row (u8s z)
        generalize s8.setRow g9 (u8s z).toArray = s9 at *
        refine k_done (by kernel_rfl) (hR.out _ _ ⟨rfl, g7, g8, g9, H.sub ⟨rfl, rfl, rfl, rfl, rfl, rfl, trivial⟩, U3, U4, U5, D7, D8, D9, EW.tr F9⟩)
      · skip
        clear H a; intro a H
        have D8 := Blk.new v0 26 (u8s (List.replicate 32 0))
        have EV1 := EV0.al (.cells (u8s (List.replicate 32 0)).toArray 26)
        replace U3 := U3.alloc (.cells (u8s (List.replicate 32 0)).toArray 26)
        replace U4 := U4.alloc (.cells (u8s (List.replicate 32 0)).toArray 26)
        replace U5 := U5.alloc (.cells (u8s (List.replicate 32 0)).toArray 26)
        replace D9 := D9.alloc (.cells (u8s (List.replicate 32 0)).toArray 26)
        have hz1 := EV0.sz
        obtain ⟨g8, hg8⟩ : ∃ g, g = v0.heap.size := ⟨_, rfl⟩
        rw [← hg8] at H D8
        have hl8 := D8.lt
        generalize hv1 : v0.alloc (.cells (u8s (List.replicate 32 0)).toArray 26) = v1 at *
        have hne54 : g9 ≠ g8 := by omega
        replace hl9 : g9 < v1.heap.size := D9.lt
        refine k_op 3 H rfl (by kernel_rfl) (wanted_none rfl) rfl (by decide) (x_alloc H rfl (al_new (z26 _))) (EV1.al (.cells (u8s (List.replicate 32 0)).toArray 26)) ?_
        clear H a; intro a H
        have D7 := Blk.new v1 26 (u8s (List.replicate 32 0))
        have EV2 := EV1.al (.cells (u8s (List.replicate 32 0)).toArray 26)
        replace U3 := U3.alloc (.cells (u8s (List.replicate 32 0)).toArray 26)
        replace U4 := U4.alloc (.cells (u8s (List.replicate 32 0)).toArray 26)
        replace U5 := U5.alloc (.cells (u8s (List.replicate 32 0)).toArray 26)
        replace D9 := D9.alloc (.cells (u8s (List.replicate 32 0)).toArray 26)
        replace D8 := D8.alloc (.cells (u8s (List.replicate 32 0)).toArray 26)
        have hz2 := EV1.sz
        obtain ⟨g7, hg7⟩ : ∃ g, g = v1.heap.size := ⟨_, rfl⟩
        rw [← hg7] at H D7
        have hl7 := D7.lt
        generalize hv2 : v1.alloc (.cells (u8s (List.replicate 32 0)).toArray 26) = v2 at *
        have hne53 : g9 ≠ g7 := by omega
        have hne43 : g8 ≠ g7 := by omega
        replace hl9 : g9 < v2.heap.size := D9.lt
        replace hl8 : g8 < v2.heap.size := D8.lt
        refine k_st 6 H rfl (by kernel_rfl) (wanted_none rfl) rfl (x_store H rfl rfl rfl (st_row D7 (by show _ = some (u8s x).toArray.size; rw [size_d x hx]; kernel_rfl) (by show _ = (u8s x).toArray.size; rw [size_d x hx]; rfl) (one_u8 _))) (EV2.row_ (g := g7) (by omega) (u8s x).toArray) ?_
        have F7 := EV2.row_ (g := g7) (by omega) (u8s x).toArray
        replace U3 := U3.grown (grown_setRow v2 g7 (u8s x).toArray) (by simp; omega)
        replace U4 := U4.grown (grown_setRow v2 g7 (u8s x).toArray) (by simp; omega)
        replace U5 := U5.grown (grown_setRow v2 g7 (u8s x).toArray) (by simp; omega)
        replace D8 := D8.grown (grown_setRow v2 g7 (u8s x).toArray) (by simp; omega)
        replace D9 := D9.grown (grown_setRow v2 g7 (u8s x).toArray) (by simp; omega)
        replace D7 : Blk (v2.setRow g7 (u8s x).toArray) g7 26 (u8s x) := D7.row (u8s x)
        generalize v2.setRow g7 (u8s x).toArray = s7 at *
        refine k_st 7 H rfl (by kernel_rfl) (wanted_none rfl) rfl (x_store H rfl rfl rfl (st_row D8 (by show _ = some (u8s y).toArray.size; rw [size_d y hy]; kernel_rfl) (by show _ = (u8s y).toArray.size; rw [size_d y hy]; rfl) (one_u8 _))) (F7.row_ (g := g8) (by omega) (u8s y).toArray) ?_
        have F8 := F7.row_ (g := g8) (by omega) (u8s y).toArray
        replace U3 := U3.grown (grown_setRow s7 g8 (u8s y).toArray) (by simp; omega)
        replace U4 := U4.grown (grown_setRow s7 g8 (u8s y).toArray) (by simp; omega)
        replace U5 := U5.grown (grown_setRow s7 g8 (u8s y).toArray) (by simp; omega)
        replace D7 := D7.grown (grown_setRow s7 g8 (u8s y).toArray) (by simp; omega)
        replace D9 := D9.grown (grown_setRow s7 g8 (u8s y).toArray) (by simp; omega)
        replace D8 : Blk (s7.setRow g8 (u8s y).toArray) g8 26 (u8s y) := D8.row (u8s y)
        generalize s7.setRow g8 (u8s y).toArray = s8 at *
        refine k_st 8 H rfl (by kernel_rfl) (wanted_none rfl) rfl (x_store H rfl rfl rfl (st_row D9 (by show _ = some (u8s z).toArray.size; rw [size_d z hz]; kernel_rfl) (by show _ = (u8s z).toArray.size; rw [size_d z hz]; rfl) (one_u8 _))) (F8.row_ (g := g9) (by omega) (u8s z).toArray) ?_
        have F9 := F8.row_ (g := g9) (by omega) (u8s z).toArray
        replace U3 := U3.grown (grown_setRow s8 g9 (u8s z).toArray) (by simp; omega)
        replace U4 := U4.grown (grown_setRow s8 g9 (u8s z).toArray) (by simp; omega)
        replace U5 := U5.grown (grown_setRow s8 g9 (u8s z).toArray) (by simp; omega)
        replace D7 := D7.grown (grown_setRow s8 g9 (u8s z).toArray) (by simp; omega)
        replace D8 := D8.grown (grown_setRow s8 g9 (u8s z).toArray) (by simp; omega)
        replace D9 : Blk (s8.setRow g9 (u8s z).toArray) g9 26 (u8s z) := D9.row (u8s z)
        generalize s8.setRow g9 (u8s z).toArray = s9 at *
        refine k_done (by kernel_rfl) (hR.out _ _ ⟨rfl, g7, g8, g9, H.sub ⟨rfl, rfl, rfl, rfl, rfl, rfl, trivial⟩, U3, U4, U5, D7, D8, D9, EW.tr F9⟩)
theorem ordersD (x y z : List UInt8) (hx : x.length = 32) (hy : y.length = 32) (hz : z.length = 32) (hc : x ≠ y) (hxy : blt x y = true) (hyx : blt y x = false) (hyz : blt y z = true) (W : World) (K0 : Kc W) (h0 : 0 < W.heap.size) :
    Calls Tryd.prog 5 #[.agg (u8s x).toArray, .agg (u8s y).toArray, .agg (u8s z).toArray] W fun e w' => e = .returned (.bool true) ∧ Ext W w' := by
  refine calls_has (args := [.agg (u8s x).toArray, .agg (u8s y).toArray, .agg (u8s z).toArray]) Tryd.func5 rfl Tryd.ntmps5 (Nat.le_of_ble_eq_true rfl) (fun a H => ?_)
  simp only [argl, Nat.reduceAdd] at H
  refine wp_seq_k (fun K1 hK1 => ?_)
  refine e_region (fun R hR => ?_)
  refine e_op H rfl rfl (by decide) (x_box H rfl rfl bx_new) ?_
  clear H a; intro a H
  have T3 := Blk.new W 25 (u8s x)
  have E3 := (Ext.refl W).al (.cells (u8s x).toArray 25)
  obtain ⟨g3, hg3⟩ : ∃ g, g = W.heap.size := ⟨_, rfl⟩
  rw [← hg3] at H T3
  have hs3 := E3.sz
  generalize W.alloc (.cells (u8s x).toArray 25) = w3 at *
  refine e_op H rfl rfl (by decide) (x_box H rfl rfl bx_new) ?_
  clear H a; intro a H
  have T4 := Blk.new w3 25 (u8s y)
  have E4 := E3.al (.cells (u8s y).toArray 25)
  replace T3 := T3.alloc (.cells (u8s y).toArray 25)
  obtain ⟨g4, hg4⟩ : ∃ g, g = w3.heap.size := ⟨_, rfl⟩
  rw [← hg4] at H T4
  have hs4 := E4.sz
  generalize w3.alloc (.cells (u8s y).toArray 25) = w4 at *
  refine e_op H rfl rfl (by decide) (x_box H rfl rfl bx_new) ?_
  clear H a; intro a H
  have T5 := Blk.new w4 25 (u8s z)
  have E5 := E4.al (.cells (u8s z).toArray 25)
  replace T3 := T3.alloc (.cells (u8s z).toArray 25)
  replace T4 := T4.alloc (.cells (u8s z).toArray 25)
  obtain ⟨g5, hg5⟩ : ∃ g, g = w4.heap.size := ⟨_, rfl⟩
  rw [← hg5] at H T5
  have hs5 := E5.sz
  generalize w4.alloc (.cells (u8s z).toArray 25) = w5 at *
  refine e_op H rfl rfl (by decide) (x_assign H rfl rfl) ?_
  clear H a; intro a H
  refine e_nil (hR.out _ _ ?_)
  clear hR R
  refine hK1 _ _ ?_
  clear hK1 K1
  refine wp_seq_k (fun K2 hK2 => ?_)
  refine wp_seq_k (fun K3 hK3 => ?_)
  refine e_region (fun R hR => ?_)
  refine e_callq H rfl rfl (by decide) rfl rfl (Tryd.call14 _) (awake_any w5 (K0.ext E5) (by omega)) ?_
  clear H a
  rintro e w1 ⟨rfl, E51⟩
  refine ⟨_, rfl, fun a H => ?_⟩
  replace T3 := T3.ext E51
  replace T4 := T4.ext E51
  replace T5 := T5.ext E51
  have E1 := E5.tr E51
  clear E3 E4 E51 E5
  refine e_op H rfl rfl (by decide) (x_un H rfl rfl (u_not (c := false) (rfl))) ?_
  clear H a; intro a H
  refine e_nil (hR.out _ _ ?_)
  clear hR R
  refine hK3 _ _ ?_
  clear hK3 K3
  refine c_false H rfl ?_
  refine wp_skip ?_
  refine hK2 _ _ ?_
  clear hK2 K2
  refine wp_seq_k (fun K4 hK4 => ?_)
  refine Code.wp_mono (Q := fun e a w => e = Exit.normal ∧ ∃ g7 g8 g9, Has a 59 [(3, .pointer (some ⟨g3, 0, none⟩)), (4, .pointer (some ⟨g4, 0, none⟩)), (5, .pointer (some ⟨g5, 0, none⟩)), (7, .pointer (some ⟨g7, 0, none⟩)), (8, .pointer (some ⟨g8, 0, none⟩)), (9, .pointer (some ⟨g9, 0, none⟩))] ∧ Blk w g3 25 (u8s x) ∧ Blk w g4 25 (u8s y) ∧ Blk w g5 25 (u8s z) ∧ Blk w g7 26 (u8s x) ∧ Blk w g8 26 (u8s y) ∧ Blk w g9 26 (u8s z) ∧ Ext W w) (fun e a w hM => ?_) ?_
  · skip
    clear H T3 T4 T5 E1
    obtain ⟨rfl, g7, g8, g9, H, T3, T4, T5, T7, T8, T9, E1⟩ := hM
    refine hK4 _ _ ?_
    clear hK4 K4
    refine wp_seq_k (fun K5 hK5 => ?_)
    refine h_start (by kernel_rfl) (fun R hR => ?_)
    replace T3 : Blk w.drew g3 25 (u8s x) := T3
    replace T4 : Blk w.drew g4 25 (u8s y) := T4
    replace T5 : Blk w.drew g5 25 (u8s z) := T5
    replace T7 : Blk w.drew g7 26 (u8s x) := T7
    replace T8 : Blk w.drew g8 26 (u8s y) := T8
    replace T9 : Blk w.drew g9 26 (u8s z) := T9
    replace E1 := E1.dr
    generalize w.drew = w at *
    refine h_take 0 H rfl rfl rfl (by decide) (by kernel_rfl) (by kernel_rfl) (by kernel_rfl) (fun w' hSw => (x_load H rfl rfl (l_row (T7.ext hSw) Tryd.underlying26 rfl (by rw [size_d x hx]; kernel_rfl)))) ?_
    clear H a; intro a H
    refine h_take 1 H rfl rfl rfl (by decide) (by kernel_rfl) (by kernel_rfl) (by kernel_rfl) (fun w' hSw => (x_load H rfl rfl (l_row (T8.ext hSw) Tryd.underlying26 rfl (by rw [size_d y hy]; kernel_rfl)))) ?_
    clear H a; intro a H
    refine h_take 3 H rfl rfl rfl (by decide) (by kernel_rfl) (by kernel_rfl) (by kernel_rfl) (fun w' hSw => (x_load H rfl rfl (l_row (T3.ext hSw) Tryd.underlying25 rfl (by rw [size_d x hx]; kernel_rfl)))) ?_
    clear H a; intro a H
    refine h_take 4 H rfl rfl rfl (by decide) (by kernel_rfl) (by kernel_rfl) (by kernel_rfl) (fun w' hSw => (x_load H rfl rfl (l_row (T4.ext hSw) Tryd.underlying25 rfl (by rw [size_d y hy]; kernel_rfl)))) ?_
    clear H a; intro a H
    refine h_call 2 H rfl (by kernel_rfl) (wanted_none rfl) rfl (by decide) rfl rfl (Tryd.call22 _) (less_any x y hx hy true hxy _) ?_
    clear H a
    rintro e w20 ⟨rfl, EE⟩
    refine ⟨_, rfl, EE, fun a H => ?_⟩
    replace T3 := T3.ext EE
    replace T4 := T4.ext EE
    replace T5 := T5.ext EE
    replace T7 := T7.ext EE
    replace T8 := T8.ext EE
    replace T9 := T9.ext EE
    replace E1 := E1.tr EE
    clear EE
    refine h_call 5 H rfl (by kernel_rfl) (wanted_none rfl) rfl (by decide) rfl rfl (Tryd.call23 _) (refless_any x y hx hy true hxy _) ?_
    clear H a
    rintro e w21 ⟨rfl, EE⟩
    refine ⟨_, rfl, EE, fun a H => ?_⟩
    replace T3 := T3.ext EE
    replace T4 := T4.ext EE
    replace T5 := T5.ext EE
    replace T7 := T7.ext EE
    replace T8 := T8.ext EE
    replace T9 := T9.ext EE
    replace E1 := E1.tr EE
    clear EE
    refine h_take 6 H rfl rfl rfl (by decide) (by kernel_rfl) (by kernel_rfl) (by kernel_rfl) (fun w' hSw => (x_bin H rfl rfl rfl eqg4 (eqb4 (c := true) rfl))) ?_
    clear H a; intro a H
    refine h_take 7 H rfl rfl rfl (by decide) (by kernel_rfl) (by kernel_rfl) (by kernel_rfl) (fun w' hSw => (x_move H rfl rfl)) ?_
    clear H a; intro a H
    refine h_takeg 8 H rfl (wanted_true H rfl rfl rfl rfl) rfl (by decide) (by kernel_rfl) (by kernel_rfl) (by kernel_rfl) (fun w' hSw => (x_load H rfl rfl (l_row (T7.ext hSw) Tryd.underlying26 rfl (by rw [size_d x hx]; kernel_rfl)))) ?_
    clear H a; intro a H
    refine h_takeg 9 H rfl (wanted_true H rfl rfl rfl rfl) rfl (by decide) (by kernel_rfl) (by kernel_rfl) (by kernel_rfl) (fun w' hSw => (x_load H rfl rfl (l_row (T7.ext hSw) Tryd.underlying26 rfl (by rw [size_d x hx]; kernel_rfl)))) ?_
    clear H a; intro a H
    refine h_call 10 H rfl (by kernel_rfl) (wanted_true H rfl rfl rfl rfl) rfl (by decide) rfl rfl (Tryd.call22 _) (less_any x x hx hx false (blt_irr x) _) ?_
    clear H a
    rintro e w22 ⟨rfl, EE⟩
    refine ⟨_, rfl, EE, fun a H => ?_⟩
    replace T3 := T3.ext EE
    replace T4 := T4.ext EE
    replace T5 := T5.ext EE
    replace T7 := T7.ext EE
    replace T8 := T8.ext EE
    replace T9 := T9.ext EE
    replace E1 := E1.tr EE
    clear EE
    refine h_takeg 11 H rfl (wanted_true H rfl rfl rfl rfl) rfl (by decide) (by kernel_rfl) (by kernel_rfl) (by kernel_rfl) (fun w' hSw => (x_un H rfl rfl (u_not (c := true) (rfl)))) ?_
    clear H a; intro a H
    refine h_take 12 H rfl rfl rfl (by decide) (by kernel_rfl) (by kernel_rfl) (by kernel_rfl) (fun w' hSw => (x_pickT H rfl rfl rfl)) ?_
    clear H a; intro a H
    refine h_take 13 H rfl rfl rfl (by decide) (by kernel_rfl) (by kernel_rfl) (by kernel_rfl) (fun w' hSw => (x_move H rfl rfl)) ?_
    clear H a; intro a H
    refine h_takeg 14 H rfl (wanted_true H rfl rfl rfl rfl) rfl (by decide) (by kernel_rfl) (by kernel_rfl) (by kernel_rfl) (fun w' hSw => (x_load H rfl rfl (l_row (T7.ext hSw) Tryd.underlying26 rfl (by rw [size_d x hx]; kernel_rfl)))) ?_
    clear H a; intro a H
    refine h_takeg 15 H rfl (wanted_true H rfl rfl rfl rfl) rfl (by decide) (by kernel_rfl) (by kernel_rfl) (by kernel_rfl) (fun w' hSw => (x_load H rfl rfl (l_row (T8.ext hSw) Tryd.underlying26 rfl (by rw [size_d y hy]; kernel_rfl)))) ?_
    clear H a; intro a H
    refine h_takeg 16 H rfl (wanted_true H rfl rfl rfl rfl) rfl (by decide) (by kernel_rfl) (by kernel_rfl) (by kernel_rfl) (fun w' hSw => (x_bin H rfl rfl rfl eqg26 (eql26 (c := false) hx hy (by simpa using hc)))) ?_
    clear H a; intro a H
    refine h_takeg 17 H rfl (wanted_true H rfl rfl rfl rfl) rfl (by decide) (by kernel_rfl) (by kernel_rfl) (by kernel_rfl) (fun w' hSw => (x_move H rfl rfl)) ?_
    clear H a; intro a H
    refine h_takeg 18 H rfl (wanted_true H rfl rfl rfl rfl) rfl (by decide) (by kernel_rfl) (by kernel_rfl) (by kernel_rfl) (fun w' hSw => (x_load H rfl rfl (l_row (T7.ext hSw) Tryd.underlying26 rfl (by rw [size_d x hx]; kernel_rfl)))) ?_
    clear H a; intro a H
    refine h_takeg 19 H rfl (wanted_true H rfl rfl rfl rfl) rfl (by decide) (by kernel_rfl) (by kernel_rfl) (by kernel_rfl) (fun w' hSw => (x_load H rfl rfl (l_row (T8.ext hSw) Tryd.underlying26 rfl (by rw [size_d y hy]; kernel_rfl)))) ?_
    clear H a; intro a H
    refine h_takeg 21 H rfl (wanted_true H rfl rfl rfl rfl) rfl (by decide) (by kernel_rfl) (by kernel_rfl) (by kernel_rfl) (fun w' hSw => (x_load H rfl rfl (l_row (T8.ext hSw) Tryd.underlying26 rfl (by rw [size_d y hy]; kernel_rfl)))) ?_
    clear H a; intro a H
    refine h_takeg 22 H rfl (wanted_true H rfl rfl rfl rfl) rfl (by decide) (by kernel_rfl) (by kernel_rfl) (by kernel_rfl) (fun w' hSw => (x_load H rfl rfl (l_row (T7.ext hSw) Tryd.underlying26 rfl (by rw [size_d x hx]; kernel_rfl)))) ?_
    clear H a; intro a H
    refine h_call 20 H rfl (by kernel_rfl) (wanted_true H rfl rfl rfl rfl) rfl (by decide) rfl rfl (Tryd.call22 _) (less_any x y hx hy true hxy _) ?_
    clear H a
    rintro e w23 ⟨rfl, EE⟩
    refine ⟨_, rfl, EE, fun a H => ?_⟩
    replace T3 := T3.ext EE
    replace T4 := T4.ext EE
    replace T5 := T5.ext EE
    replace T7 := T7.ext EE
    replace T8 := T8.ext EE
    replace T9 := T9.ext EE
    replace E1 := E1.tr EE
    clear EE
    refine h_call 23 H rfl (by kernel_rfl) (wanted_true H rfl rfl rfl rfl) rfl (by decide) rfl rfl (Tryd.call22 _) (less_any y x hy hx false hyx _) ?_
    clear H a
    rintro e w24 ⟨rfl, EE⟩
    refine ⟨_, rfl, EE, fun a H => ?_⟩
    replace T3 := T3.ext EE
    replace T4 := T4.ext EE
    replace T5 := T5.ext EE
    replace T7 := T7.ext EE
    replace T8 := T8.ext EE
    replace T9 := T9.ext EE
    replace E1 := E1.tr EE
    clear EE
    refine h_takeg 24 H rfl (wanted_true H rfl rfl rfl rfl) rfl (by decide) (by kernel_rfl) (by kernel_rfl) (by kernel_rfl) (fun w' hSw => (x_bin H rfl rfl rfl eqn4 (neb4 (c := true) rfl))) ?_
    clear H a; intro a H
    refine h_takeg 25 H rfl (wanted_true H rfl rfl rfl rfl) rfl (by decide) (by kernel_rfl) (by kernel_rfl) (by kernel_rfl) (fun w' hSw => (x_pickF H rfl rfl rfl)) ?_
    clear H a; intro a H
    refine h_take 26 H rfl rfl rfl (by decide) (by kernel_rfl) (by kernel_rfl) (by kernel_rfl) (fun w' hSw => (x_pickT H rfl rfl rfl)) ?_
    clear H a; intro a H
    refine h_take 27 H rfl rfl rfl (by decide) (by kernel_rfl) (by kernel_rfl) (by kernel_rfl) (fun w' hSw => (x_move H rfl rfl)) ?_
    clear H a; intro a H
    refine h_takeg 28 H rfl (wanted_true H rfl rfl rfl rfl) rfl (by decide) (by kernel_rfl) (by kernel_rfl) (by kernel_rfl) (fun w' hSw => (x_load H rfl rfl (l_row (T7.ext hSw) Tryd.underlying26 rfl (by rw [size_d x hx]; kernel_rfl)))) ?_
    clear H a; intro a H
    refine h_takeg 29 H rfl (wanted_true H rfl rfl rfl rfl) rfl (by decide) (by kernel_rfl) (by kernel_rfl) (by kernel_rfl) (fun w' hSw => (x_load H rfl rfl (l_row (T8.ext hSw) Tryd.underlying26 rfl (by rw [size_d y hy]; kernel_rfl)))) ?_
    clear H a; intro a H
    refine h_call 30 H rfl (by kernel_rfl) (wanted_true H rfl rfl rfl rfl) rfl (by decide) rfl rfl (Tryd.call22 _) (less_any x y hx hy true hxy _) ?_
    clear H a
    rintro e w25 ⟨rfl, EE⟩
    refine ⟨_, rfl, EE, fun a H => ?_⟩
    replace T3 := T3.ext EE
    replace T4 := T4.ext EE
    replace T5 := T5.ext EE
    replace T7 := T7.ext EE
    replace T8 := T8.ext EE
    replace T9 := T9.ext EE
    replace E1 := E1.tr EE
    clear EE
    refine h_takeg 31 H rfl (wanted_true H rfl rfl rfl rfl) rfl (by decide) (by kernel_rfl) (by kernel_rfl) (by kernel_rfl) (fun w' hSw => (x_un H rfl rfl (u_not (c := false) (rfl)))) ?_
    clear H a; intro a H
    refine h_takeg 32 H rfl (wanted_true H rfl rfl rfl rfl) rfl (by decide) (by kernel_rfl) (by kernel_rfl) (by kernel_rfl) (fun w' hSw => (x_move H rfl rfl)) ?_
    clear H a; intro a H
    refine h_takeg 33 H rfl (wanted_true H rfl rfl rfl rfl) rfl (by decide) (by kernel_rfl) (by kernel_rfl) (by kernel_rfl) (fun w' hSw => (x_load H rfl rfl (l_row (T8.ext hSw) Tryd.underlying26 rfl (by rw [size_d y hy]; kernel_rfl)))) ?_
    clear H a; intro a H
    refine h_takeg 34 H rfl (wanted_true H rfl rfl rfl rfl) rfl (by decide) (by kernel_rfl) (by kernel_rfl) (by kernel_rfl) (fun w' hSw => (x_load H rfl rfl (l_row (T9.ext hSw) Tryd.underlying26 rfl (by rw [size_d z hz]; kernel_rfl)))) ?_
    clear H a; intro a H
    refine h_call 35 H rfl (by kernel_rfl) (wanted_true H rfl rfl rfl rfl) rfl (by decide) rfl rfl (Tryd.call22 _) (less_any y z hy hz true hyz _) ?_
    clear H a
    rintro e w26 ⟨rfl, EE⟩
    refine ⟨_, rfl, EE, fun a H => ?_⟩
    replace T3 := T3.ext EE
    replace T4 := T4.ext EE
    replace T5 := T5.ext EE
    replace T7 := T7.ext EE
    replace T8 := T8.ext EE
    replace T9 := T9.ext EE
    replace E1 := E1.tr EE
    clear EE
    refine h_takeg 36 H rfl (wanted_true H rfl rfl rfl rfl) rfl (by decide) (by kernel_rfl) (by kernel_rfl) (by kernel_rfl) (fun w' hSw => (x_un H rfl rfl (u_not (c := false) (rfl)))) ?_
    clear H a; intro a H
    refine h_takeg 37 H rfl (wanted_true H rfl rfl rfl rfl) rfl (by decide) (by kernel_rfl) (by kernel_rfl) (by kernel_rfl) (fun w' hSw => (x_pickF H rfl rfl rfl)) ?_
    clear H a; intro a H
    refine h_takeg 38 H rfl (wanted_true H rfl rfl rfl rfl) rfl (by decide) (by kernel_rfl) (by kernel_rfl) (by kernel_rfl) (fun w' hSw => (x_move H rfl rfl)) ?_
    clear H a; intro a H
    refine h_takeg 39 H rfl (wanted_true H rfl rfl rfl rfl) rfl (by decide) (by kernel_rfl) (by kernel_rfl) (by kernel_rfl) (fun w' hSw => (x_load H rfl rfl (l_row (T7.ext hSw) Tryd.underlying26 rfl (by rw [size_d x hx]; kernel_rfl)))) ?_
    clear H a; intro a H
    refine h_takeg 40 H rfl (wanted_true H rfl rfl rfl rfl) rfl (by decide) (by kernel_rfl) (by kernel_rfl) (by kernel_rfl) (fun w' hSw => (x_load H rfl rfl (l_row (T9.ext hSw) Tryd.underlying26 rfl (by rw [size_d z hz]; kernel_rfl)))) ?_
    clear H a; intro a H
    refine h_call 41 H rfl (by kernel_rfl) (wanted_true H rfl rfl rfl rfl) rfl (by decide) rfl rfl (Tryd.call22 _) (less_any x z hx hz true (blt_trans hxy hyz) _) ?_
    clear H a
    rintro e w27 ⟨rfl, EE⟩
    refine ⟨_, rfl, EE, fun a H => ?_⟩
    replace T3 := T3.ext EE
    replace T4 := T4.ext EE
    replace T5 := T5.ext EE
    replace T7 := T7.ext EE
    replace T8 := T8.ext EE
    replace T9 := T9.ext EE
    replace E1 := E1.tr EE
    clear EE
    refine h_takeg 42 H rfl (wanted_true H rfl rfl rfl rfl) rfl (by decide) (by kernel_rfl) (by kernel_rfl) (by kernel_rfl) (fun w' hSw => (x_pickF H rfl rfl rfl)) ?_
    clear H a; intro a H
    refine h_take 43 H rfl rfl rfl (by decide) (by kernel_rfl) (by kernel_rfl) (by kernel_rfl) (fun w' hSw => (x_pickT H rfl rfl rfl)) ?_
    clear H a; intro a H
    refine h_take 44 H rfl rfl rfl (by decide) (by kernel_rfl) (by kernel_rfl) (by kernel_rfl) (fun w' hSw => (x_assign H rfl rfl)) ?_
    clear H a; intro a H
    refine h_done (by kernel_rfl) (hR.out _ _ ?_)
    clear hR R
    refine hK5 _ _ ?_
    clear hK5 K5
    refine wp_ret ?_
    exact ret1 H rfl rfl ⟨rfl, E1⟩
  · skip
    refine h_start (by kernel_rfl) (fun R hR => ?_)
    have U3 : Blk w1.drew g3 25 (u8s x) := T3
    have U4 : Blk w1.drew g4 25 (u8s y) := T4
    have U5 : Blk w1.drew g5 25 (u8s z) := T5
    have EW := E1.dr
    clear T3 T4 T5 E1
    obtain ⟨w0, hw0⟩ : ∃ w0, w0 = w1.drew := ⟨_, rfl⟩
    rw [← hw0] at U3 U4 U5 EW ⊢
    have h30 := U3.lt
    have h40 := U4.lt
    have h50 := U5.lt
    have EV := Ext.refl w0
    refine h_take 0 H rfl rfl rfl (by decide) (by kernel_rfl) (by kernel_rfl) (by kernel_rfl) (fun w' hSw => (x_load H rfl rfl (l_row (U3.ext hSw) Tryd.underlying25 rfl (by rw [size_d x hx]; kernel_rfl)))) ?_
    clear H a; intro a H
    refine h_take 1 H rfl rfl rfl (by decide) (by kernel_rfl) (by kernel_rfl) (by kernel_rfl) (fun w' hSw => (x_load H rfl rfl (l_row (U4.ext hSw) Tryd.underlying25 rfl (by rw [size_d y hy]; kernel_rfl)))) ?_
    clear H a; intro a H
    refine h_take 2 H rfl rfl rfl (by decide) (by kernel_rfl) (by kernel_rfl) (by kernel_rfl) (fun w' hSw => (x_load H rfl rfl (l_row (U5.ext hSw) Tryd.underlying25 rfl (by rw [size_d z hz]; kernel_rfl)))) ?_
    clear H a; intro a H
    refine k_three 3 4 5 H (by kernel_rfl) rfl (wanted_none rfl) rfl (by decide) (x_alloc H rfl (al_new (z26 _))) (EV.al (.cells (u8s (List.replicate 32 0)).toArray 26)) rfl (wanted_none rfl) rfl (by decide) (x_alloc H rfl (al_new (z26 _))) (EV.al (.cells (u8s (List.replicate 32 0)).toArray 26)) rfl (wanted_none rfl) rfl (by decide) (x_alloc H rfl (al_new (z26 _))) (EV.al (.cells (u8s (List.replicate 32 0)).toArray 26)) ?_ ?_ ?_
    · skip
      clear H a; intro a H
      have D7 := Blk.new w0 26 (u8s (List.replicate 32 0))
      have EV0 := EV.al (.cells (u8s (List.replicate 32 0)).toArray 26)
      replace U3 := U3.alloc (.cells (u8s (List.replicate 32 0)).toArray 26)
      replace U4 := U4.alloc (.cells (u8s (List.replicate 32 0)).toArray 26)
      replace U5 := U5.alloc (.cells (u8s (List.replicate 32 0)).toArray 26)
      have hz0 := EV.sz
      obtain ⟨g7, hg7⟩ : ∃ g, g = w0.heap.size := ⟨_, rfl⟩
      rw [← hg7] at H D7
      have hl7 := D7.lt
      generalize hv0 : w0.alloc (.cells (u8s (List.replicate 32 0)).toArray 26) = v0 at *
      refine k_two 4 5 H (by kernel_rfl) rfl (wanted_none rfl) rfl (by decide) (x_alloc H rfl (al_new (z26 _))) (EV0.al (.cells (u8s (List.replicate 32 0)).toArray 26)) rfl (wanted_none rfl) rfl (by decide) (x_alloc H rfl (al_new (z26 _))) (EV0.al (.cells (u8s (List.replicate 32 0)).toArray 26)) ?_ ?_
      · skip
        clear H a; intro a H
        have D8 := Blk.new v0 26 (u8s (List.replicate 32 0))
        have EV1 := EV0.al (.cells (u8s (List.replicate 32 0)).toArray 26)
        replace U3 := U3.alloc (.cells (u8s (List.replicate 32 0)).toArray 26)
        replace U4 := U4.alloc (.cells (u8s (List.replicate 32 0)).toArray 26)
        replace U5 := U5.alloc (.cells (u8s (List.replicate 32 0)).toArray 26)
        replace D7 := D7.alloc (.cells (u8s (List.replicate 32 0)).toArray 26)
        have hz1 := EV0.sz
        obtain ⟨g8, hg8⟩ : ∃ g, g = v0.heap.size := ⟨_, rfl⟩
        rw [← hg8] at H D8
        have hl8 := D8.lt
        generalize hv1 : v0.alloc (.cells (u8s (List.replicate 32 0)).toArray 26) = v1 at *
        have hne34 : g7 ≠ g8 := by omega
        replace hl7 : g7 < v1.heap.size := D7.lt
        refine k_op 5 H rfl (by kernel_rfl) (wanted_none rfl) rfl (by decide) (x_alloc H rfl (al_new (z26 _))) (EV1.al (.cells (u8s (List.replicate 32 0)).toArray 26)) ?_
        clear H a; intro a H
        have D9 := Blk.new v1 26 (u8s (List.replicate 32 0))
        have EV2 := EV1.al (.cells (u8s (List.replicate 32 0)).toArray 26)
        replace U3 := U3.alloc (.cells (u8s (List.replicate 32 0)).toArray 26)
        replace U4 := U4.alloc (.cells (u8s (List.replicate 32 0)).toArray 26)
        replace U5 := U5.alloc (.cells (u8s (List.replicate 32 0)).toArray 26)
        replace D7 := D7.alloc (.cells (u8s (List.replicate 32 0)).toArray 26)
        replace D8 := D8.alloc (.cells (u8s (List.replicate 32 0)).toArray 26)
        have hz2 := EV1.sz
        obtain ⟨g9, hg9⟩ : ∃ g, g = v1.heap.size := ⟨_, rfl⟩
        rw [← hg9] at H D9
        have hl9 := D9.lt
        generalize hv2 : v1.alloc (.cells (u8s (List.replicate 32 0)).toArray 26) = v2 at *
        have hne35 : g7 ≠ g9 := by omega
        have hne45 : g8 ≠ g9 := by omega
        replace hl7 : g7 < v2.heap.size := D7.lt
        replace hl8 : g8 < v2.heap.size := D8.lt
        refine k_st 6 H rfl (by kernel_rfl) (wanted_none rfl) rfl (x_store H rfl rfl rfl (st_row D7 (by show _ = some (u8s x).toArray.size; rw [size_d x hx]; kernel_rfl) (by show _ = (u8s x).toArray.size; rw [size_d x hx]; rfl) (one_u8 _))) (EV2.row_ (g := g7) (by omega) (u8s x).toArray) ?_
        have F7 := EV2.row_ (g := g7) (by omega) (u8s x).toArray
        replace U3 := U3.grown (grown_setRow v2 g7 (u8s x).toArray) (by simp; omega)
        replace U4 := U4.grown (grown_setRow v2 g7 (u8s x).toArray) (by simp; omega)
        replace U5 := U5.grown (grown_setRow v2 g7 (u8s x).toArray) (by simp; omega)
        replace D8 := D8.grown (grown_setRow v2 g7 (u8s x).toArray) (by simp; omega)
        replace D9 := D9.grown (grown_setRow v2 g7 (u8s x).toArray) (by simp; omega)
        replace D7 : Blk (v2.setRow g7 (u8s x).toArray) g7 26 (u8s x) := D7.row (u8s x)
        generalize v2.setRow g7 (u8s x).toArray = s7 at *
        refine k_st 7 H rfl (by kernel_rfl) (wanted_none rfl) rfl (x_store H rfl rfl rfl (st_row D8 (by show _ = some (u8s y).toArray.size; rw [size_d y hy]; kernel_rfl) (by show _ = (u8s y).toArray.size; rw [size_d y hy]; rfl) (one_u8 _))) (F7.row_ (g := g8) (by omega) (u8s y).toArray) ?_
        have F8 := F7.row_ (g := g8) (by omega) (u8s y).toArray
        replace U3 := U3.grown (grown_setRow s7 g8 (u8s y).toArray) (by simp; omega)
        replace U4 := U4.grown (grown_setRow s7 g8 (u8s y).toArray) (by simp; omega)
        replace U5 := U5.grown (grown_setRow s7 g8 (u8s y).toArray) (by simp; omega)
        replace D7 := D7.grown (grown_setRow s7 g8 (u8s y).toArray) (by simp; omega)
        replace D9 := D9.grown (grown_setRow s7 g8 (u8s y).toArray) (by simp; omega)
        replace D8 : Blk (s7.setRow g8 (u8s y).toArray) g8 26 (u8s y) := D8.row (u8s y)
        generalize s7.setRow g8 (u8s y).toArray = s8 at *
        refine k_st 8 H rfl (by kernel_rfl) (wanted_none rfl) rfl (x_store H rfl rfl rfl (st_row D9 (by show _ = some (u8s z).toArray.size; rw [size_d z hz]; kernel_rfl) (by show _ = (u8s z).toArray.size; rw [size_d z hz]; rfl) (one_u8 _))) (F8.row_ (g := g9) (by omega) (u8s z).toArray) ?_
        have F9 := F8.row_ (g := g9) (by omega) (u8s z).toArray
        replace U3 := U3.grown (grown_setRow s8 g9 (u8s z).toArray) (by simp; omega)
        replace U4 := U4.grown (grown_setRow s8 g9 (u8s z).toArray) (by simp; omega)
        replace U5 := U5.grown (grown_setRow s8 g9 (u8s z).toArray) (by simp; omega)
        replace D7 := D7.grown (grown_setRow s8 g9 (u8s z).toArray) (by simp; omega)
        replace D8 := D8.grown (grown_setRow s8 g9 (u8s z).toArray) (by simp; omega)
        replace D9 : Blk (s8.setRow g9 (u8s z).toArray) g9 26 (u8s z) := D9.row (u8s z)
        generalize s8.setRow g9 (u8s z).toArray = s9 at *
        refine k_done (by kernel_rfl) (hR.out _ _ ⟨rfl, g7, g8, g9, H.sub ⟨rfl, rfl, rfl, rfl, rfl, rfl, trivial⟩, U3, U4, U5, D7, D8, D9, EW.tr F9⟩)
      · skip
        clear H a; intro a H
        have D9 := Blk.new v0 26 (u8s (List.replicate 32 0))
        have EV1 := EV0.al (.cells (u8s (List.replicate 32 0)).toArray 26)
        replace U3 := U3.alloc (.cells (u8s (List.replicate 32 0)).toArray 26)
        replace U4 := U4.alloc (.cells (u8s (List.replicate 32 0)).toArray 26)
        replace U5 := U5.alloc (.cells (u8s (List.replicate 32 0)).toArray 26)
        replace D7 := D7.alloc (.cells (u8s (List.replicate 32 0)).toArray 26)
        have hz1 := EV0.sz
        obtain ⟨g9, hg9⟩ : ∃ g, g = v0.heap.size := ⟨_, rfl⟩
        rw [← hg9] at H D9
        have hl9 := D9.lt
        generalize hv1 : v0.alloc (.cells (u8s (List.replicate 32 0)).toArray 26) = v1 at *
        have hne35 : g7 ≠ g9 := by omega
        replace hl7 : g7 < v1.heap.size := D7.lt
        refine k_op 4 H rfl (by kernel_rfl) (wanted_none rfl) rfl (by decide) (x_alloc H rfl (al_new (z26 _))) (EV1.al (.cells (u8s (List.replicate 32 0)).toArray 26)) ?_
        clear H a; intro a H
        have D8 := Blk.new v1 26 (u8s (List.replicate 32 0))
        have EV2 := EV1.al (.cells (u8s (List.replicate 32 0)).toArray 26)
        replace U3 := U3.alloc (.cells (u8s (List.replicate 32 0)).toArray 26)
        replace U4 := U4.alloc (.cells (u8s (List.replicate 32 0)).toArray 26)
        replace U5 := U5.alloc (.cells (u8s (List.replicate 32 0)).toArray 26)
        replace D7 := D7.alloc (.cells (u8s (List.replicate 32 0)).toArray 26)
        replace D9 := D9.alloc (.cells (u8s (List.replicate 32 0)).toArray 26)
        have hz2 := EV1.sz
        obtain ⟨g8, hg8⟩ : ∃ g, g = v1.heap.size := ⟨_, rfl⟩
        rw [← hg8] at H D8
        have hl8 := D8.lt
        generalize hv2 : v1.alloc (.cells (u8s (List.replicate 32 0)).toArray 26) = v2 at *
        have hne34 : g7 ≠ g8 := by omega
        have hne54 : g9 ≠ g8 := by omega
        replace hl7 : g7 < v2.heap.size := D7.lt
        replace hl9 : g9 < v2.heap.size := D9.lt
        refine k_st 6 H rfl (by kernel_rfl) (wanted_none rfl) rfl (x_store H rfl rfl rfl (st_row D7 (by show _ = some (u8s x).toArray.size; rw [size_d x hx]; kernel_rfl) (by show _ = (u8s x).toArray.size; rw [size_d x hx]; rfl) (one_u8 _))) (EV2.row_ (g := g7) (by omega) (u8s x).toArray) ?_
        have F7 := EV2.row_ (g := g7) (by omega) (u8s x).toArray
        replace U3 := U3.grown (grown_setRow v2 g7 (u8s x).toArray) (by simp; omega)
        replace U4 := U4.grown (grown_setRow v2 g7 (u8s x).toArray) (by simp; omega)
        replace U5 := U5.grown (grown_setRow v2 g7 (u8s x).toArray) (by simp; omega)
        replace D8 := D8.grown (grown_setRow v2 g7 (u8s x).toArray) (by simp; omega)
        replace D9 := D9.grown (grown_setRow v2 g7 (u8s x).toArray) (by simp; omega)
        replace D7 : Blk (v2.setRow g7 (u8s x).toArray) g7 26 (u8s x) := D7.row (u8s x)
        generalize v2.setRow g7 (u8s x).toArray = s7 at *
        refine k_st 7 H rfl (by kernel_rfl) (wanted_none rfl) rfl (x_store H rfl rfl rfl (st_row D8 (by show _ = some (u8s y).toArray.size; rw [size_d y hy]; kernel_rfl) (by show _ = (u8s y).toArray.size; rw [size_d y hy]; rfl) (one_u8 _))) (F7.row_ (g := g8) (by omega) (u8s y).toArray) ?_
        have F8 := F7.row_ (g := g8) (by omega) (u8s y).toArray
        replace U3 := U3.grown (grown_setRow s7 g8 (u8s y).toArray) (by simp; omega)
        replace U4 := U4.grown (grown_setRow s7 g8 (u8s y).toArray) (by simp; omega)
        replace U5 := U5.grown (grown_setRow s7 g8 (u8s y).toArray) (by simp; omega)
        replace D7 := D7.grown (grown_setRow s7 g8 (u8s y).toArray) (by simp; omega)
        replace D9 := D9.grown (grown_setRow s7 g8 (u8s y).toArray) (by simp; omega)
        replace D8 : Blk (s7.setRow g8 (u8s y).toArray) g8 26 (u8s y) := D8.row (u8s y)
        generalize s7.setRow g8 (u8s y).toArray = s8 at *
        refine k_st 8 H rfl (by kernel_rfl) (wanted_none rfl) rfl (x_store H rfl rfl rfl (st_row D9 (by show _ = some (u8s z).toArray.size; rw [size_d z hz]; kernel_rfl) (by show _ = (u8s z).toArray.size; rw [size_d z hz]; rfl) (one_u8 _))) (F8.row_ (g := g9) (by omega) (u8s z).toArray) ?_
        have F9 := F8.row_ (g := g9) (by omega) (u8s z).toArray
        replace U3 := U3.grown (grown_setRow s8 g9 (u8s z).toArray) (by simp; omega)
        replace U4 := U4.grown (grown_setRow s8 g9 (u8s z).toArray) (by simp; omega)
        replace U5 := U5.grown (grown_setRow s8 g9 (u8s z).toArray) (by simp; omega)
        replace D7 := D7.grown (grown_setRow s8 g9 (u8s z).toArray) (by simp; omega)
        replace D8 := D8.grown (grown_setRow s8 g9 (u8s z).toArray) (by simp; omega)
        replace D9 : Blk (s8.setRow g9 (u8s z).toArray) g9 26 (u8s z) := D9.row (u8s z)
        generalize s8.setRow g9 (u8s z).toArray = s9 at *
        refine k_done (by kernel_rfl) (hR.out _ _ ⟨rfl, g7, g8, g9, H.sub ⟨rfl, rfl, rfl, rfl, rfl, rfl, trivial⟩, U3, U4, U5, D7, D8, D9, EW.tr F9⟩)
    · skip
      clear H a; intro a H
      have D8 := Blk.new w0 26 (u8s (List.replicate 32 0))
      have EV0 := EV.al (.cells (u8s (List.replicate 32 0)).toArray 26)
      replace U3 := U3.alloc (.cells (u8s (List.replicate 32 0)).toArray 26)
      replace U4 := U4.alloc (.cells (u8s (List.replicate 32 0)).toArray 26)
      replace U5 := U5.alloc (.cells (u8s (List.replicate 32 0)).toArray 26)
      have hz0 := EV.sz
      obtain ⟨g8, hg8⟩ : ∃ g, g = w0.heap.size := ⟨_, rfl⟩
      rw [← hg8] at H D8
      have hl8 := D8.lt
      generalize hv0 : w0.alloc (.cells (u8s (List.replicate 32 0)).toArray 26) = v0 at *
      refine k_two 3 5 H (by kernel_rfl) rfl (wanted_none rfl) rfl (by decide) (x_alloc H rfl (al_new (z26 _))) (EV0.al (.cells (u8s (List.replicate 32 0)).toArray 26)) rfl (wanted_none rfl) rfl (by decide) (x_alloc H rfl (al_new (z26 _))) (EV0.al (.cells (u8s (List.replicate 32 0)).toArray 26)) ?_ ?_
      · skip
        clear H a; intro a H
        have D7 := Blk.new v0 26 (u8s (List.replicate 32 0))
        have EV1 := EV0.al (.cells (u8s (List.replicate 32 0)).toArray 26)
        replace U3 := U3.alloc (.cells (u8s (List.replicate 32 0)).toArray 26)
        replace U4 := U4.alloc (.cells (u8s (List.replicate 32 0)).toArray 26)
        replace U5 := U5.alloc (.cells (u8s (List.replicate 32 0)).toArray 26)
        replace D8 := D8.alloc (.cells (u8s (List.replicate 32 0)).toArray 26)
        have hz1 := EV0.sz
        obtain ⟨g7, hg7⟩ : ∃ g, g = v0.heap.size := ⟨_, rfl⟩
        rw [← hg7] at H D7
        have hl7 := D7.lt
        generalize hv1 : v0.alloc (.cells (u8s (List.replicate 32 0)).toArray 26) = v1 at *
        have hne43 : g8 ≠ g7 := by omega
        replace hl8 : g8 < v1.heap.size := D8.lt
        refine k_op 5 H rfl (by kernel_rfl) (wanted_none rfl) rfl (by decide) (x_alloc H rfl (al_new (z26 _))) (EV1.al (.cells (u8s (List.replicate 32 0)).toArray 26)) ?_
        clear H a; intro a H
        have D9 := Blk.new v1 26 (u8s (List.replicate 32 0))
        have EV2 := EV1.al (.cells (u8s (List.replicate 32 0)).toArray 26)
        replace U3 := U3.alloc (.cells (u8s (List.replicate 32 0)).toArray 26)
        replace U4 := U4.alloc (.cells (u8s (List.replicate 32 0)).toArray 26)
        replace U5 := U5.alloc (.cells (u8s (List.replicate 32 0)).toArray 26)
        replace D8 := D8.alloc (.cells (u8s (List.replicate 32 0)).toArray 26)
        replace D7 := D7.alloc (.cells (u8s (List.replicate 32 0)).toArray 26)
        have hz2 := EV1.sz
        obtain ⟨g9, hg9⟩ : ∃ g, g = v1.heap.size := ⟨_, rfl⟩
        rw [← hg9] at H D9
        have hl9 := D9.lt
        generalize hv2 : v1.alloc (.cells (u8s (List.replicate 32 0)).toArray 26) = v2 at *
        have hne45 : g8 ≠ g9 := by omega
        have hne35 : g7 ≠ g9 := by omega
        replace hl8 : g8 < v2.heap.size := D8.lt
        replace hl7 : g7 < v2.heap.size := D7.lt
        refine k_st 6 H rfl (by kernel_rfl) (wanted_none rfl) rfl (x_store H rfl rfl rfl (st_row D7 (by show _ = some (u8s x).toArray.size; rw [size_d x hx]; kernel_rfl) (by show _ = (u8s x).toArray.size; rw [size_d x hx]; rfl) (one_u8 _))) (EV2.row_ (g := g7) (by omega) (u8s x).toArray) ?_
        have F7 := EV2.row_ (g := g7) (by omega) (u8s x).toArray
        replace U3 := U3.grown (grown_setRow v2 g7 (u8s x).toArray) (by simp; omega)
        replace U4 := U4.grown (grown_setRow v2 g7 (u8s x).toArray) (by simp; omega)
        replace U5 := U5.grown (grown_setRow v2 g7 (u8s x).toArray) (by simp; omega)
        replace D8 := D8.grown (grown_setRow v2 g7 (u8s x).toArray) (by simp; omega)
        replace D9 := D9.grown (grown_setRow v2 g7 (u8s x).toArray) (by simp; omega)
        replace D7 : Blk (v2.setRow g7 (u8s x).toArray) g7 26 (u8s x) := D7.row (u8s x)
        generalize v2.setRow g7 (u8s x).toArray = s7 at *
        refine k_st 7 H rfl (by kernel_rfl) (wanted_none rfl) rfl (x_store H rfl rfl rfl (st_row D8 (by show _ = some (u8s y).toArray.size; rw [size_d y hy]; kernel_rfl) (by show _ = (u8s y).toArray.size; rw [size_d y hy]; rfl) (one_u8 _))) (F7.row_ (g := g8) (by omega) (u8s y).toArray) ?_
        have F8 := F7.row_ (g := g8) (by omega) (u8s y).toArray
        replace U3 := U3.grown (grown_setRow s7 g8 (u8s y).toArray) (by simp; omega)
        replace U4 := U4.grown (grown_setRow s7 g8 (u8s y).toArray) (by simp; omega)
        replace U5 := U5.grown (grown_setRow s7 g8 (u8s y).toArray) (by simp; omega)
        replace D7 := D7.grown (grown_setRow s7 g8 (u8s y).toArray) (by simp; omega)
        replace D9 := D9.grown (grown_setRow s7 g8 (u8s y).toArray) (by simp; omega)
        replace D8 : Blk (s7.setRow g8 (u8s y).toArray) g8 26 (u8s y) := D8.row (u8s y)
        generalize s7.setRow g8 (u8s y).toArray = s8 at *
        refine k_st 8 H rfl (by kernel_rfl) (wanted_none rfl) rfl (x_store H rfl rfl rfl (st_row D9 (by show _ = some (u8s z).toArray.size; rw [size_d z hz]; kernel_rfl) (by show _ = (u8s z).toArray.size; rw [size_d z hz]; rfl) (one_u8 _))) (F8.row_ (g := g9) (by omega) (u8s z).toArray) ?_
        have F9 := F8.row_ (g := g9) (by omega) (u8s z).toArray
        replace U3 := U3.grown (grown_setRow s8 g9 (u8s z).toArray) (by simp; omega)
        replace U4 := U4.grown (grown_setRow s8 g9 (u8s z).toArray) (by simp; omega)
        replace U5 := U5.grown (grown_setRow s8 g9 (u8s z).toArray) (by simp; omega)
        replace D7 := D7.grown (grown_setRow s8 g9 (u8s z).toArray) (by simp; omega)
        replace D8 := D8.grown (grown_setRow s8 g9 (u8s z).toArray) (by simp; omega)
        replace D9 : Blk (s8.setRow g9 (u8s z).toArray) g9 26 (u8s z) := D9.row (u8s z)
        generalize s8.setRow g9 (u8s z).toArray = s9 at *
        refine k_done (by kernel_rfl) (hR.out _ _ ⟨rfl, g7, g8, g9, H.sub ⟨rfl, rfl, rfl, rfl, rfl, rfl, trivial⟩, U3, U4, U5, D7, D8, D9, EW.tr F9⟩)
      · skip
        clear H a; intro a H
        have D9 := Blk.new v0 26 (u8s (List.replicate 32 0))
        have EV1 := EV0.al (.cells (u8s (List.replicate 32 0)).toArray 26)
        replace U3 := U3.alloc (.cells (u8s (List.replicate 32 0)).toArray 26)
        replace U4 := U4.alloc (.cells (u8s (List.replicate 32 0)).toArray 26)
        replace U5 := U5.alloc (.cells (u8s (List.replicate 32 0)).toArray 26)
        replace D8 := D8.alloc (.cells (u8s (List.replicate 32 0)).toArray 26)
        have hz1 := EV0.sz
        obtain ⟨g9, hg9⟩ : ∃ g, g = v0.heap.size := ⟨_, rfl⟩
        rw [← hg9] at H D9
        have hl9 := D9.lt
        generalize hv1 : v0.alloc (.cells (u8s (List.replicate 32 0)).toArray 26) = v1 at *
        have hne45 : g8 ≠ g9 := by omega
        replace hl8 : g8 < v1.heap.size := D8.lt
        refine k_op 3 H rfl (by kernel_rfl) (wanted_none rfl) rfl (by decide) (x_alloc H rfl (al_new (z26 _))) (EV1.al (.cells (u8s (List.replicate 32 0)).toArray 26)) ?_
        clear H a; intro a H
        have D7 := Blk.new v1 26 (u8s (List.replicate 32 0))
        have EV2 := EV1.al (.cells (u8s (List.replicate 32 0)).toArray 26)
        replace U3 := U3.alloc (.cells (u8s (List.replicate 32 0)).toArray 26)
        replace U4 := U4.alloc (.cells (u8s (List.replicate 32 0)).toArray 26)
        replace U5 := U5.alloc (.cells (u8s (List.replicate 32 0)).toArray 26)
        replace D8 := D8.alloc (.cells (u8s (List.replicate 32 0)).toArray 26)
        replace D9 := D9.alloc (.cells (u8s (List.replicate 32 0)).toArray 26)
        have hz2 := EV1.sz
        obtain ⟨g7, hg7⟩ : ∃ g, g = v1.heap.size := ⟨_, rfl⟩
        rw [← hg7] at H D7
        have hl7 := D7.lt
        generalize hv2 : v1.alloc (.cells (u8s (List.replicate 32 0)).toArray 26) = v2 at *
        have hne43 : g8 ≠ g7 := by omega
        have hne53 : g9 ≠ g7 := by omega
        replace hl8 : g8 < v2.heap.size := D8.lt
        replace hl9 : g9 < v2.heap.size := D9.lt
        refine k_st 6 H rfl (by kernel_rfl) (wanted_none rfl) rfl (x_store H rfl rfl rfl (st_row D7 (by show _ = some (u8s x).toArray.size; rw [size_d x hx]; kernel_rfl) (by show _ = (u8s x).toArray.size; rw [size_d x hx]; rfl) (one_u8 _))) (EV2.row_ (g := g7) (by omega) (u8s x).toArray) ?_
        have F7 := EV2.row_ (g := g7) (by omega) (u8s x).toArray
        replace U3 := U3.grown (grown_setRow v2 g7 (u8s x).toArray) (by simp; omega)
        replace U4 := U4.grown (grown_setRow v2 g7 (u8s x).toArray) (by simp; omega)
        replace U5 := U5.grown (grown_setRow v2 g7 (u8s x).toArray) (by simp; omega)
        replace D8 := D8.grown (grown_setRow v2 g7 (u8s x).toArray) (by simp; omega)
        replace D9 := D9.grown (grown_setRow v2 g7 (u8s x).toArray) (by simp; omega)
        replace D7 : Blk (v2.setRow g7 (u8s x).toArray) g7 26 (u8s x) := D7.row (u8s x)
        generalize v2.setRow g7 (u8s x).toArray = s7 at *
        refine k_st 7 H rfl (by kernel_rfl) (wanted_none rfl) rfl (x_store H rfl rfl rfl (st_row D8 (by show _ = some (u8s y).toArray.size; rw [size_d y hy]; kernel_rfl) (by show _ = (u8s y).toArray.size; rw [size_d y hy]; rfl) (one_u8 _))) (F7.row_ (g := g8) (by omega) (u8s y).toArray) ?_
        have F8 := F7.row_ (g := g8) (by omega) (u8s y).toArray
        replace U3 := U3.grown (grown_setRow s7 g8 (u8s y).toArray) (by simp; omega)
        replace U4 := U4.grown (grown_setRow s7 g8 (u8s y).toArray) (by simp; omega)
        replace U5 := U5.grown (grown_setRow s7 g8 (u8s y).toArray) (by simp; omega)
        replace D7 := D7.grown (grown_setRow s7 g8 (u8s y).toArray) (by simp; omega)
        replace D9 := D9.grown (grown_setRow s7 g8 (u8s y).toArray) (by simp; omega)
        replace D8 : Blk (s7.setRow g8 (u8s y).toArray) g8 26 (u8s y) := D8.row (u8s y)
        generalize s7.setRow g8 (u8s y).toArray = s8 at *
        refine k_st 8 H rfl (by kernel_rfl) (wanted_none rfl) rfl (x_store H rfl rfl rfl (st_row D9 (by show _ = some (u8s z).toArray.size; rw [size_d z hz]; kernel_rfl) (by show _ = (u8s z).toArray.size; rw [size_d z hz]; rfl) (one_u8 _))) (F8.row_ (g := g9) (by omega) (u8s z).toArray) ?_
        have F9 := F8.row_ (g := g9) (by omega) (u8s z).toArray
        replace U3 := U3.grown (grown_setRow s8 g9 (u8s z).toArray) (by simp; omega)
        replace U4 := U4.grown (grown_setRow s8 g9 (u8s z).toArray) (by simp; omega)
        replace U5 := U5.grown (grown_setRow s8 g9 (u8s z).toArray) (by simp; omega)
        replace D7 := D7.grown (grown_setRow s8 g9 (u8s z).toArray) (by simp; omega)
        replace D8 := D8.grown (grown_setRow s8 g9 (u8s z).toArray) (by simp; omega)
        replace D9 : Blk (s8.setRow g9 (u8s z).toArray) g9 26 (u8s z) := D9.row (u8s z)
        generalize s8.setRow g9 (u8s z).toArray = s9 at *
        refine k_done (by kernel_rfl) (hR.out _ _ ⟨rfl, g7, g8, g9, H.sub ⟨rfl, rfl, rfl, rfl, rfl, rfl, trivial⟩, U3, U4, U5, D7, D8, D9, EW.tr F9⟩)
    · skip
      clear H a; intro a H
      have D9 := Blk.new w0 26 (u8s (List.replicate 32 0))
      have EV0 := EV.al (.cells (u8s (List.replicate 32 0)).toArray 26)
      replace U3 := U3.alloc (.cells (u8s (List.replicate 32 0)).toArray 26)
      replace U4 := U4.alloc (.cells (u8s (List.replicate 32 0)).toArray 26)
      replace U5 := U5.alloc (.cells (u8s (List.replicate 32 0)).toArray 26)
      have hz0 := EV.sz
      obtain ⟨g9, hg9⟩ : ∃ g, g = w0.heap.size := ⟨_, rfl⟩
      rw [← hg9] at H D9
      have hl9 := D9.lt
      generalize hv0 : w0.alloc (.cells (u8s (List.replicate 32 0)).toArray 26) = v0 at *
      refine k_two 3 4 H (by kernel_rfl) rfl (wanted_none rfl) rfl (by decide) (x_alloc H rfl (al_new (z26 _))) (EV0.al (.cells (u8s (List.replicate 32 0)).toArray 26)) rfl (wanted_none rfl) rfl (by decide) (x_alloc H rfl (al_new (z26 _))) (EV0.al (.cells (u8s (List.replicate 32 0)).toArray 26)) ?_ ?_
      · skip
        clear H a; intro a H
        have D7 := Blk.new v0 26 (u8s (List.replicate 32 0))
        have EV1 := EV0.al (.cells (u8s (List.replicate 32 0)).toArray 26)
        replace U3 := U3.alloc (.cells (u8s (List.replicate 32 0)).toArray 26)
        replace U4 := U4.alloc (.cells (u8s (List.replicate 32 0)).toArray 26)
        replace U5 := U5.alloc (.cells (u8s (List.replicate 32 0)).toArray 26)
        replace D9 := D9.alloc (.cells (u8s (List.replicate 32 0)).toArray 26)
        have hz1 := EV0.sz
        obtain ⟨g7, hg7⟩ : ∃ g, g = v0.heap.size := ⟨_, rfl⟩
        rw [← hg7] at H D7
        have hl7 := D7.lt
        generalize hv1 : v0.alloc (.cells (u8s (List.replicate 32 0)).toArray 26) = v1 at *
        have hne53 : g9 ≠ g7 := by omega
        replace hl9 : g9 < v1.heap.size := D9.lt
        refine k_op 4 H rfl (by kernel_rfl) (wanted_none rfl) rfl (by decide) (x_alloc H rfl (al_new (z26 _))) (EV1.al (.cells (u8s (List.replicate 32 0)).toArray 26)) ?_
        clear H a; intro a H
        have D8 := Blk.new v1 26 (u8s (List.replicate 32 0))
        have EV2 := EV1.al (.cells (u8s (List.replicate 32 0)).toArray 26)
        replace U3 := U3.alloc (.cells (u8s (List.replicate 32 0)).toArray 26)
        replace U4 := U4.alloc (.cells (u8s (List.replicate 32 0)).toArray 26)
        replace U5 := U5.alloc (.cells (u8s (List.replicate 32 0)).toArray 26)
        replace D9 := D9.alloc (.cells (u8s (List.replicate 32 0)).toArray 26)
        replace D7 := D7.alloc (.cells (u8s (List.replicate 32 0)).toArray 26)
        have hz2 := EV1.sz
        obtain ⟨g8, hg8⟩ : ∃ g, g = v1.heap.size := ⟨_, rfl⟩
        rw [← hg8] at H D8
        have hl8 := D8.lt
        generalize hv2 : v1.alloc (.cells (u8s (List.replicate 32 0)).toArray 26) = v2 at *
        have hne54 : g9 ≠ g8 := by omega
        have hne34 : g7 ≠ g8 := by omega
        replace hl9 : g9 < v2.heap.size := D9.lt
        replace hl7 : g7 < v2.heap.size := D7.lt
        refine k_st 6 H rfl (by kernel_rfl) (wanted_none rfl) rfl (x_store H rfl rfl rfl (st_row D7 (by show _ = some (u8s x).toArray.size; rw [size_d x hx]; kernel_rfl) (by show _ = (u8s x).toArray.size; rw [size_d x hx]; rfl) (one_u8 _))) (EV2.row_ (g := g7) (by omega) (u8s x).toArray) ?_
        have F7 := EV2.row_ (g := g7) (by omega) (u8s x).toArray
        replace U3 := U3.grown (grown_setRow v2 g7 (u8s x).toArray) (by simp; omega)
        replace U4 := U4.grown (grown_setRow v2 g7 (u8s x).toArray) (by simp; omega)
        replace U5 := U5.grown (grown_setRow v2 g7 (u8s x).toArray) (by simp; omega)
        replace D8 := D8.grown (grown_setRow v2 g7 (u8s x).toArray) (by simp; omega)
        replace D9 := D9.grown (grown_setRow v2 g7 (u8s x).toArray) (by simp; omega)
        replace D7 : Blk (v2.setRow g7 (u8s x).toArray) g7 26 (u8s x) := D7.row (u8s x)
        generalize v2.setRow g7 (u8s x).toArray = s7 at *
        refine k_st 7 H rfl (by kernel_rfl) (wanted_none rfl) rfl (x_store H rfl rfl rfl (st_row D8 (by show _ = some (u8s y).toArray.size; rw [size_d y hy]; kernel_rfl) (by show _ = (u8s y).toArray.size; rw [size_d y hy]; rfl) (one_u8 _))) (F7.row_ (g := g8) (by omega) (u8s y).toArray) ?_
        have F8 := F7.row_ (g := g8) (by omega) (u8s y).toArray
        replace U3 := U3.grown (grown_setRow s7 g8 (u8s y).toArray) (by simp; omega)
        replace U4 := U4.grown (grown_setRow s7 g8 (u8s y).toArray) (by simp; omega)
        replace U5 := U5.grown (grown_setRow s7 g8 (u8s y).toArray) (by simp; omega)
        replace D7 := D7.grown (grown_setRow s7 g8 (u8s y).toArray) (by simp; omega)
        replace D9 := D9.grown (grown_setRow s7 g8 (u8s y).toArray) (by simp; omega)
        replace D8 : Blk (s7.setRow g8 (u8s y).toArray) g8 26 (u8s y) := D8.row (u8s y)
        generalize s7.setRow g8 (u8s y).toArray = s8 at *
        refine k_st 8 H rfl (by kernel_rfl) (wanted_none rfl) rfl (x_store H rfl rfl rfl (st_row D9 (by show _ = some (u8s z).toArray.size; rw [size_d z hz]; kernel_rfl) (by show _ = (u8s z).toArray.size; rw [size_d z hz]; rfl) (one_u8 _))) (F8.row_ (g := g9) (by omega) (u8s z).toArray) ?_
        have F9 := F8.row_ (g := g9) (by omega) (u8s z).toArray
        replace U3 := U3.grown (grown_setRow s8 g9 (u8s z).toArray) (by simp; omega)
        replace U4 := U4.grown (grown_setRow s8 g9 (u8s z).toArray) (by simp; omega)
        replace U5 := U5.grown (grown_setRow s8 g9 (u8s z).toArray) (by simp; omega)
        replace D7 := D7.grown (grown_setRow s8 g9 (u8s z).toArray) (by simp; omega)
        replace D8 := D8.grown (grown_setRow s8 g9 (u8s z).toArray) (by simp; omega)
        replace D9 : Blk (s8.setRow g9 (u8s z).toArray) g9 26 (u8s z) := D9.row (u8s z)
        generalize s8.setRow g9 (u8s z).toArray = s9 at *
        refine k_done (by kernel_rfl) (hR.out _ _ ⟨rfl, g7, g8, g9, H.sub ⟨rfl, rfl, rfl, rfl, rfl, rfl, trivial⟩, U3, U4, U5, D7, D8, D9, EW.tr F9⟩)
      · skip
        clear H a; intro a H
        have D8 := Blk.new v0 26 (u8s (List.replicate 32 0))
        have EV1 := EV0.al (.cells (u8s (List.replicate 32 0)).toArray 26)
        replace U3 := U3.alloc (.cells (u8s (List.replicate 32 0)).toArray 26)
        replace U4 := U4.alloc (.cells (u8s (List.replicate 32 0)).toArray 26)
        replace U5 := U5.alloc (.cells (u8s (List.replicate 32 0)).toArray 26)
        replace D9 := D9.alloc (.cells (u8s (List.replicate 32 0)).toArray 26)
        have hz1 := EV0.sz
        obtain ⟨g8, hg8⟩ : ∃ g, g = v0.heap.size := ⟨_, rfl⟩
        rw [← hg8] at H D8
        have hl8 := D8.lt
        generalize hv1 : v0.alloc (.cells (u8s (List.replicate 32 0)).toArray 26) = v1 at *
        have hne54 : g9 ≠ g8 := by omega
        replace hl9 : g9 < v1.heap.size := D9.lt
        refine k_op 3 H rfl (by kernel_rfl) (wanted_none rfl) rfl (by decide) (x_alloc H rfl (al_new (z26 _))) (EV1.al (.cells (u8s (List.replicate 32 0)).toArray 26)) ?_
        clear H a; intro a H
        have D7 := Blk.new v1 26 (u8s (List.replicate 32 0))
        have EV2 := EV1.al (.cells (u8s (List.replicate 32 0)).toArray 26)
        replace U3 := U3.alloc (.cells (u8s (List.replicate 32 0)).toArray 26)
        replace U4 := U4.alloc (.cells (u8s (List.replicate 32 0)).toArray 26)
        replace U5 := U5.alloc (.cells (u8s (List.replicate 32 0)).toArray 26)
        replace D9 := D9.alloc (.cells (u8s (List.replicate 32 0)).toArray 26)
        replace D8 := D8.alloc (.cells (u8s (List.replicate 32 0)).toArray 26)
        have hz2 := EV1.sz
        obtain ⟨g7, hg7⟩ : ∃ g, g = v1.heap.size := ⟨_, rfl⟩
        rw [← hg7] at H D7
        have hl7 := D7.lt
        generalize hv2 : v1.alloc (.cells (u8s (List.replicate 32 0)).toArray 26) = v2 at *
        have hne53 : g9 ≠ g7 := by omega
        have hne43 : g8 ≠ g7 := by omega
        replace hl9 : g9 < v2.heap.size := D9.lt
        replace hl8 : g8 < v2.heap.size := D8.lt
        refine k_st 6 H rfl (by kernel_rfl) (wanted_none rfl) rfl (x_store H rfl rfl rfl (st_row D7 (by show _ = some (u8s x).toArray.size; rw [size_d x hx]; kernel_rfl) (by show _ = (u8s x).toArray.size; rw [size_d x hx]; rfl) (one_u8 _))) (EV2.row_ (g := g7) (by omega) (u8s x).toArray) ?_
        have F7 := EV2.row_ (g := g7) (by omega) (u8s x).toArray
        replace U3 := U3.grown (grown_setRow v2 g7 (u8s x).toArray) (by simp; omega)
        replace U4 := U4.grown (grown_setRow v2 g7 (u8s x).toArray) (by simp; omega)
        replace U5 := U5.grown (grown_setRow v2 g7 (u8s x).toArray) (by simp; omega)
        replace D8 := D8.grown (grown_setRow v2 g7 (u8s x).toArray) (by simp; omega)
        replace D9 := D9.grown (grown_setRow v2 g7 (u8s x).toArray) (by simp; omega)
        replace D7 : Blk (v2.setRow g7 (u8s x).toArray) g7 26 (u8s x) := D7.row (u8s x)
        generalize v2.setRow g7 (u8s x).toArray = s7 at *
        refine k_st 7 H rfl (by kernel_rfl) (wanted_none rfl) rfl (x_store H rfl rfl rfl (st_row D8 (by show _ = some (u8s y).toArray.size; rw [size_d y hy]; kernel_rfl) (by show _ = (u8s y).toArray.size; rw [size_d y hy]; rfl) (one_u8 _))) (F7.row_ (g := g8) (by omega) (u8s y).toArray) ?_
        have F8 := F7.row_ (g := g8) (by omega) (u8s y).toArray
        replace U3 := U3.grown (grown_setRow s7 g8 (u8s y).toArray) (by simp; omega)
        replace U4 := U4.grown (grown_setRow s7 g8 (u8s y).toArray) (by simp; omega)
        replace U5 := U5.grown (grown_setRow s7 g8 (u8s y).toArray) (by simp; omega)
        replace D7 := D7.grown (grown_setRow s7 g8 (u8s y).toArray) (by simp; omega)
        replace D9 := D9.grown (grown_setRow s7 g8 (u8s y).toArray) (by simp; omega)
        replace D8 : Blk (s7.setRow g8 (u8s y).toArray) g8 26 (u8s y) := D8.row (u8s y)
        generalize s7.setRow g8 (u8s y).toArray = s8 at *
        refine k_st 8 H rfl (by kernel_rfl) (wanted_none rfl) rfl (x_store H rfl rfl rfl (st_row D9 (by show _ = some (u8s z).toArray.size; rw [size_d z hz]; kernel_rfl) (by show _ = (u8s z).toArray.size; rw [size_d z hz]; rfl) (one_u8 _))) (F8.row_ (g := g9) (by omega) (u8s z).toArray) ?_
        have F9 := F8.row_ (g := g9) (by omega) (u8s z).toArray
        replace U3 := U3.grown (grown_setRow s8 g9 (u8s z).toArray) (by simp; omega)
        replace U4 := U4.grown (grown_setRow s8 g9 (u8s z).toArray) (by simp; omega)
        replace U5 := U5.grown (grown_setRow s8 g9 (u8s z).toArray) (by simp; omega)
        replace D7 := D7.grown (grown_setRow s8 g9 (u8s z).toArray) (by simp; omega)
        replace D8 := D8.grown (grown_setRow s8 g9 (u8s z).toArray) (by simp; omega)
        replace D9 : Blk (s8.setRow g9 (u8s z).toArray) g9 26 (u8s z) := D9.row (u8s z)
        generalize s8.setRow g9 (u8s z).toArray = s9 at *
        refine k_done (by kernel_rfl) (hR.out _ _ ⟨rfl, g7, g8, g9, H.sub ⟨rfl, rfl, rfl, rfl, rfl, rfl, trivial⟩, U3, U4, U5, D7, D8, D9, EW.tr F9⟩)
theorem digestOrders_any (x y z : List UInt8) (hx : x.length = 32) (hy : y.length = 32) (hz : z.length = 32) (W : World) (K0 : Kc W) (h0 : 0 < W.heap.size) :
    Calls Tryd.prog 5 #[.agg (u8s x).toArray, .agg (u8s y).toArray, .agg (u8s z).toArray] W fun e w' => e = .returned (.bool true) ∧ Ext W w' := by
  by_cases hc : x = y
  · exact ordersA x y z hx hy hz hc (by rw [hc]; exact blt_irr y) W K0 h0
  · have hyx := blt_flip hc
    cases hxy : blt x y with
    | false => exact ordersB x y z hx hy hz hc hxy (by rw [hyx, hxy]; rfl) W K0 h0
    | true =>
      rw [hxy] at hyx
      cases hyz : blt y z with
      | false => exact ordersC x y z hx hy hz hc hxy hyx hyz W K0 h0
      | true => exact ordersD x y z hx hy hz hc hxy hyx hyz W K0 h0
end Go.Proofs.YtknllmcpogoeoaaDoor
