/- Parse, the reference's Parse and Text, DigestTexts, DigestParses, walked. -/
import Derived.Test.YtknllmcpogoeoaaDoorHx
namespace Go.Proofs.YtknllmcpogoeoaaDoor
open Go.RowKit
set_option linter.unusedVariables false
set_option linter.unusedSimpArgs false
set_option maxRecDepth 100000
theorem digit47_ok (n : Nat) (hn : n < 256) (h : 0 ≤ digv n) (w : World) : Calls Tryd.prog 47 #[.int .u8 (n : Int)] w fun e w' => e = .returned (.tuple #[.int .u8 (digv n), .bool true]) ∧ w' = w := by
  by_cases h1 : 48 ≤ n ∧ n ≤ 57
  · have hd : digv n = (n : Int) - 48 := by unfold digv; rw [if_pos h1]
    rw [hd]
    have t1 : decide ((48 : Int) ≤ n) = true := by simp; omega
    have t2 : decide ((n : Int) ≤ 57) = true := by simp; omega
    have t3 : decide (48 ≤ n) = true := by simp; omega
    have t4 : decide (n ≤ 57) = true := by simp; omega
    have q1 : (48 : Int) ≤ n := by omega
    have q2 : (n : Int) ≤ 57 := by omega
    clear hd h1 h
    go_enter Tryd.func47, Tryd.ntmps47
    go_wp2
    go_ret2
    exact ⟨rfl, rfl⟩
  · by_cases h2 : 97 ≤ n ∧ n ≤ 102
    · have hd : digv n = (n : Int) - 97 + 10 := by unfold digv; rw [if_neg h1, if_pos h2]; omega
      rw [hd]
      have t1 : decide ((48 : Int) ≤ n) = true := by simp; omega
      have t2 : decide ((n : Int) ≤ 57) = false := by simp; omega
      have t3 : decide (48 ≤ n) = true := by simp; omega
      have t4 : decide (n ≤ 57) = false := by simp; omega
      have t5 : decide ((97 : Int) ≤ n) = true := by simp; omega
      have t6 : decide ((n : Int) ≤ 102) = true := by simp; omega
      have q1 : (97 : Int) ≤ n := by omega
      have q2 : (n : Int) ≤ 102 := by omega
      clear hd h1 h2 h
      go_enter Tryd.func47, Tryd.ntmps47
      go_wp2
      go_ret2
      exact ⟨rfl, rfl⟩
    · exfalso
      unfold digv at h
      rw [if_neg h1, if_neg h2] at h
      omega
theorem digit47_no (n : Nat) (hn : n < 256) (h : digv n < 0) (w : World) : Calls Tryd.prog 47 #[.int .u8 (n : Int)] w fun e w' => e = .returned (.tuple #[.int .u8 0, .bool false]) ∧ w' = w := by
  have h1 : ¬ (48 ≤ n ∧ n ≤ 57) := fun h1 => by unfold digv at h; rw [if_pos h1] at h; omega
  have h2 : ¬ (97 ≤ n ∧ n ≤ 102) := fun h2 => by unfold digv at h; rw [if_neg h1, if_pos h2] at h; omega
  have H1 := Lib.hid h1
  have H2 := Lib.hid h2
  clear h1 h2 h
  go_enter Tryd.func47, Tryd.ntmps47
  go_wp2
  all_goals first
    | (go_ret2; exact ⟨rfl, rfl⟩)
    | (refine (H1.out ?_).elim; constructor <;> omega)
    | (refine (H2.out ?_).elim; constructor <;> omega)
set_option maxHeartbeats 1000000 in
theorem parse_any (s : ByteArray) (l : List UInt8) (hl : l = s.data.toList) (w0 : World) : Calls Tryd.prog 31 #[.string s] w0 fun e w' => PPost l e ∧ Ext w0 w' := by
  have hsz : s.size = l.length := by rw [hl, size_list]
  by_cases h64 : l.length = 64
  · skip
    refine calls_has (args := [.string s]) Tryd.func31 rfl Tryd.ntmps31 (Nat.le_of_ble_eq_true rfl) (fun a H => ?_)
    simp only [argl, Nat.reduceAdd] at H
    refine wp_seq_k (fun K1 hK1 => ?_)
    refine e_region (fun R hR => ?_)
    refine e_op H rfl rfl (by decide) (x_alloc H rfl (al_new (z26 _))) ?_
    clear H a; intro a H
    have D1 := Blk.new w0 26 (u8s (List.replicate 32 0))
    have E1 := (Ext.refl w0).al (.cells (u8s (List.replicate 32 0)).toArray 26)
    obtain ⟨gd, hgd⟩ : ∃ gd, gd = w0.heap.size := ⟨_, rfl⟩
    rw [← hgd] at H D1
    have hs1 := E1.sz
    generalize w0.alloc (.cells (u8s (List.replicate 32 0)).toArray 26) = w1 at *
    refine e_op H rfl rfl (by decide) (x_assign H rfl rfl) ?_
    clear H a; intro a H
    refine e_nil (hR.out _ _ ?_)
    clear hR R
    refine hK1 _ _ ?_
    clear hK1 K1
    refine wp_seq_k (fun K2 hK2 => ?_)
    refine e_region (fun R hR => ?_)
    refine e_op H rfl rfl (by decide) (x_alloc H rfl (al_new (z26 _))) ?_
    clear H a; intro a H
    have Q1 := Blk.new w1 26 (u8s (List.replicate 32 0))
    have E2 := E1.al (.cells (u8s (List.replicate 32 0)).toArray 26)
    have D2 := D1.alloc (.cells (u8s (List.replicate 32 0)).toArray 26)
    obtain ⟨g4, hg4⟩ : ∃ g4, g4 = w1.heap.size := ⟨_, rfl⟩
    rw [← hg4] at H Q1
    have hd4 : gd < g4 := by have := D1.lt; omega
    generalize w1.alloc (.cells (u8s (List.replicate 32 0)).toArray 26) = w2 at *
    clear D1 E1
    refine e_nil (hR.out _ _ ?_)
    clear hR R
    refine hK2 _ _ ?_
    clear hK2 K2
    refine wp_seq_k (fun K3 hK3 => ?_)
    refine wp_seq_k (fun K4 hK4 => ?_)
    refine e_region (fun R hR => ?_)
    refine e_op H rfl rfl (by decide) (x_move H rfl rfl) ?_
    clear H a; intro a H
    refine e_op H rfl rfl (by decide) (x_builtin H rfl rfl (fun cs => len_str Tryd.underlying9)) ?_
    clear H a; intro a H
    refine e_op H rfl rfl (by decide) (x_binI H rfl rfl rfl (b_neq (b := false) (bne_f (by omega)))) ?_
    clear H a; intro a H
    refine e_nil (hR.out _ _ ?_)
    clear hR R
    refine hK4 _ _ ?_
    clear hK4 K4
    refine c_false H rfl ?_
    refine wp_skip ?_
    refine hK3 _ _ ?_
    clear hK3 K3
    refine wp_seq_k (fun K5 hK5 => ?_)
    refine wp_seq_k (fun K6 hK6 => ?_)
    refine e_region (fun R hR => ?_)
    refine e_op H rfl rfl (by decide) (x_move H rfl rfl) ?_
    clear H a; intro a H
    refine e_nil (hR.out _ _ ?_)
    clear hR R
    refine hK6 _ _ ?_
    clear hK6 K6
    refine wp_block ?_
    refine wp_loop_ghost (fun n a w => ∃ k : Nat, k ≤ 32 ∧ n = 32 - k ∧ Has a 49 [(0, .string s), (2, .pointer (some ⟨gd, 0, none⟩)), (4, .pointer (some ⟨g4, 0, none⟩)), (14, .int .i64 (k : Int))] ∧ (∀ j, j < 2 * k → 0 ≤ dig l j) ∧ Blk w g4 26 (u8s (unhexP l k ++ List.replicate (32 - k) 0)) ∧ Blk w gd 26 (u8s (List.replicate 32 0)) ∧ Ext w0 w) (32) ?_ ?_
    · skip
      exact ⟨0, by omega, rfl, H.sub ⟨rfl, rfl, rfl, rfl, trivial⟩, fun j hj => by omega, Q1, D2, E2⟩
    · skip
      clear H a Q1 D2 E2
      intro n a w hI
      clear w2
      obtain ⟨k, hk, rfl, H, hok, Q1, D2, E2⟩ := hI
      have hs2 := E2.sz
      rcases (show (k < 32 ∧ 0 ≤ digv (bt l (2 * k)) ∧ 0 ≤ digv (bt l (2 * k + 1))) ∨ (k < 32 ∧ 0 ≤ digv (bt l (2 * k)) ∧ digv (bt l (2 * k + 1)) < 0) ∨ (k < 32 ∧ digv (bt l (2 * k)) < 0 ∧ 0 ≤ digv (bt l (2 * k + 1))) ∨ (k < 32 ∧ digv (bt l (2 * k)) < 0 ∧ digv (bt l (2 * k + 1)) < 0) ∨ k = 32 by omega) with ⟨hlt, ha, hb⟩ | ⟨hlt, ha, hb⟩ | ⟨hlt, ha, hb⟩ | ⟨hlt, ha, hb⟩ | rfl
      · skip
        obtain ⟨α, hα⟩ : ∃ α : Nat, digv (bt l (2 * k)) = (α : Int) := ⟨(digv (bt l (2 * k))).toNat, by omega⟩
        obtain ⟨β, hβ⟩ : ∃ β : Nat, digv (bt l (2 * k + 1)) = (β : Int) := ⟨(digv (bt l (2 * k + 1))).toNat, by omega⟩
        have hαl := digv_le (bt l (2 * k))
        have hβl := digv_le (bt l (2 * k + 1))
        refine wp_seq_k (fun K7 hK7 => ?_)
        refine e_region (fun R hR => ?_)
        refine e_op H rfl rfl (by decide) (x_binI H rfl rfl rfl (b_lss (b := true) (dec_t (by omega)))) ?_
        clear H a; intro a H
        refine e_nil (hR.out _ _ ?_)
        clear hR R
        refine hK7 _ _ ?_
        clear hK7 K7
        refine wp_seq_k (fun K8 hK8 => ?_)
        refine c_true H rfl ?_
        refine wp_skip ?_
        refine hK8 _ _ ?_
        clear hK8 K8
        refine wp_seq_k (fun K9 hK9 => ?_)
        refine wp_block ?_
        refine wp_seq_k (fun K10 hK10 => ?_)
        refine e_region (fun R hR => ?_)
        refine e_op H rfl rfl (by decide) (x_move H rfl rfl) ?_
        clear H a; intro a H
        refine e_op H rfl rfl (by decide) (x_assign H rfl rfl) ?_
        clear H a; intro a H
        refine e_nil (hR.out _ _ ?_)
        clear hR R
        refine hK10 _ _ ?_
        clear hK10 K10
        refine wp_seq_k (fun K11 hK11 => ?_)
        refine e_region (fun R hR => ?_)
        refine e_op H rfl rfl (by decide) (x_move H rfl rfl) ?_
        clear H a; intro a H
        refine e_op H rfl rfl (by decide) (x_move H rfl rfl) ?_
        clear H a; intro a H
        refine e_op H rfl rfl (by decide) (x_binI H rfl rfl rfl (b_mul (z := ((2 * k : Nat) : Int)) (by rw [IntKind.wrap_i64]; omega))) ?_
        clear H a; intro a H
        refine e_op H rfl rfl (by decide) (x_index (v := .int .u8 (bt l (2 * k) : Int)) H rfl rfl rfl (by rw [hl]; exact idx_str (m := 2 * k) Tryd.underlying9 rfl (by omega))) ?_
        clear H a; intro a H
        refine e_callp H rfl rfl (by decide) rfl rfl (Tryd.call47 _) (digit47_ok (bt l (2 * k)) (bt_lt l _) ha _) ?_
        clear H a; intro a H
        refine e_op H rfl rfl (by decide) (x_move H rfl rfl) ?_
        clear H a; intro a H
        refine e_op H rfl rfl (by decide) (x_extract H rfl rfl rfl) ?_
        clear H a; intro a H
        refine e_op H rfl rfl (by decide) (x_extract H rfl rfl rfl) ?_
        clear H a; intro a H
        refine e_op H rfl rfl (by decide) (x_assign H rfl rfl) ?_
        clear H a; intro a H
        refine e_op H rfl rfl (by decide) (x_assign H rfl rfl) ?_
        clear H a; intro a H
        refine e_nil (hR.out _ _ ?_)
        clear hR R
        refine hK11 _ _ ?_
        clear hK11 K11
        refine wp_seq_k (fun K12 hK12 => ?_)
        refine e_region (fun R hR => ?_)
        refine e_op H rfl rfl (by decide) (x_move H rfl rfl) ?_
        clear H a; intro a H
        refine e_op H rfl rfl (by decide) (x_move H rfl rfl) ?_
        clear H a; intro a H
        refine e_op H rfl rfl (by decide) (x_binI H rfl rfl rfl (b_mul (z := ((2 * k : Nat) : Int)) (by rw [IntKind.wrap_i64]; omega))) ?_
        clear H a; intro a H
        refine e_op H rfl rfl (by decide) (x_binI H rfl rfl rfl (b_add (z := ((2 * k + 1 : Nat) : Int)) (by rw [IntKind.wrap_i64]; omega))) ?_
        clear H a; intro a H
        refine e_op H rfl rfl (by decide) (x_index (v := .int .u8 (bt l (2 * k + 1) : Int)) H rfl rfl rfl (by rw [hl]; exact idx_str (m := 2 * k + 1) Tryd.underlying9 rfl (by omega))) ?_
        clear H a; intro a H
        refine e_callp H rfl rfl (by decide) rfl rfl (Tryd.call47 _) (digit47_ok (bt l (2 * k + 1)) (bt_lt l _) hb _) ?_
        clear H a; intro a H
        refine e_op H rfl rfl (by decide) (x_move H rfl rfl) ?_
        clear H a; intro a H
        refine e_op H rfl rfl (by decide) (x_extract H rfl rfl rfl) ?_
        clear H a; intro a H
        refine e_op H rfl rfl (by decide) (x_extract H rfl rfl rfl) ?_
        clear H a; intro a H
        refine e_op H rfl rfl (by decide) (x_assign H rfl rfl) ?_
        clear H a; intro a H
        refine e_op H rfl rfl (by decide) (x_assign H rfl rfl) ?_
        clear H a; intro a H
        refine e_nil (hR.out _ _ ?_)
        clear hR R
        refine hK12 _ _ ?_
        clear hK12 K12
        refine wp_seq_k (fun K13 hK13 => ?_)
        refine wp_seq_k (fun K14 hK14 => ?_)
        refine e_region (fun R hR => ?_)
        refine e_op H rfl rfl (by decide) (x_move H rfl rfl) ?_
        clear H a; intro a H
        refine e_op H rfl rfl (by decide) (x_un H rfl rfl (u_not (c := false) (rfl))) ?_
        clear H a; intro a H
        refine e_op H rfl rfl (by decide) (x_move H rfl rfl) ?_
        clear H a; intro a H
        refine e_opg H (wanted_true H rfl rfl rfl rfl) rfl (by decide) (x_move H rfl rfl) ?_
        clear H a; intro a H
        refine e_opg H (wanted_true H rfl rfl rfl rfl) rfl (by decide) (x_un H rfl rfl (u_not (c := false) (rfl))) ?_
        clear H a; intro a H
        refine e_op H rfl rfl (by decide) (x_pickF H rfl rfl rfl) ?_
        clear H a; intro a H
        refine e_nil (hR.out _ _ ?_)
        clear hR R
        refine hK14 _ _ ?_
        clear hK14 K14
        refine c_false H rfl ?_
        refine wp_skip ?_
        refine hK13 _ _ ?_
        clear hK13 K13
        refine e_region (fun R hR => ?_)
        refine e_op H rfl rfl (by decide) (x_move H rfl rfl) ?_
        clear H a; intro a H
        refine e_op H rfl rfl (by decide) (x_move H rfl rfl) ?_
        clear H a; intro a H
        refine e_op H rfl rfl (by decide) (x_binI H rfl rfl rfl (b_shl (z := ((α * 16 : Nat) : Int)) (by decide) (by rw [hα, min_b8 (i := (4 : Int)) 4 rfl (by omega), IntKind.wrap_u8]; omega))) ?_
        clear H a; intro a H
        refine e_op H rfl rfl (by decide) (x_move H rfl rfl) ?_
        clear H a; intro a H
        refine e_op H rfl rfl (by decide) (x_binI H rfl rfl rfl (b_or (z := ((UInt8.ofNat (α * 16 + β)).toNat : Int)) (by rw [hβ, or_pair α β (by omega) (by omega), ofNat_mod]; omega))) ?_
        clear H a; intro a H
        refine e_op H rfl rfl (by decide) (x_indexAddr H rfl rfl rfl (i_arr0 (m := k) Tryd.underlying26 Tryd.sizeOf5 rfl (by omega))) ?_
        clear H a; intro a H
        refine e_st H rfl rfl (x_store H rfl rfl rfl (st_cell rfl rfl Tryd.sizeOf5 (Q1.frozen k) (Q1.isSome k (by simp [u8s_len, unhexP_len]; omega)))) ?_
        have Q2 := Q1.setU8 k (UInt8.ofNat (α * 16 + β))
        rw [show 32 - k = (31 - k) + 1 by omega, fill_u8 _ _ _ _ (unhexP_len l k), show UInt8.ofNat (α * 16 + β) = pairAt l k by unfold pairAt dig; rw [hα, hβ]; simp, ← unhexP_succ, show 31 - k = 32 - (k + 1) by omega] at Q2
        have D3 := D2.far (b := g4) (o := k) (by omega) (.int .u8 ((UInt8.ofNat (α * 16 + β)).toNat : Int))
        have E3 := E2.st (g := g4) (by omega) k (.int .u8 ((UInt8.ofNat (α * 16 + β)).toNat : Int))
        rw [show UInt8.ofNat (α * 16 + β) = pairAt l k by unfold pairAt dig; rw [hα, hβ]; simp] at D3 E3 ⊢
        refine e_nil (hR.out _ _ ?_)
        clear hR R
        refine hK9 _ _ ?_
        clear hK9 K9
        refine e_region (fun R hR => ?_)
        refine e_op H rfl rfl (by decide) (x_binI H rfl rfl rfl (b_add (z := ((k + 1 : Nat) : Int)) (by rw [IntKind.wrap_i64]; omega))) ?_
        clear H a; intro a H
        refine e_op H rfl rfl (by decide) (x_move H rfl rfl) ?_
        clear H a; intro a H
        refine e_nil (hR.out _ _ ?_)
        clear hR R
        refine ⟨32 - (k + 1), by omega, k + 1, by omega, rfl, H.sub ⟨rfl, rfl, rfl, rfl, trivial⟩, fun j hj => ?_, Q2, D3, E3⟩
        rcases (show j < 2 * k ∨ j = 2 * k ∨ j = 2 * k + 1 by omega) with h | h | h
        · exact hok j h
        · rw [h]; exact ha
        · rw [h]; exact hb
      · skip
        skip
        refine wp_seq_k (fun K15 hK15 => ?_)
        refine e_region (fun R hR => ?_)
        refine e_op H rfl rfl (by decide) (x_binI H rfl rfl rfl (b_lss (b := true) (dec_t (by omega)))) ?_
        clear H a; intro a H
        refine e_nil (hR.out _ _ ?_)
        clear hR R
        refine hK15 _ _ ?_
        clear hK15 K15
        refine wp_seq_k (fun K16 hK16 => ?_)
        refine c_true H rfl ?_
        refine wp_skip ?_
        refine hK16 _ _ ?_
        clear hK16 K16
        refine wp_seq_k (fun K17 hK17 => ?_)
        refine wp_block ?_
        refine wp_seq_k (fun K18 hK18 => ?_)
        refine e_region (fun R hR => ?_)
        refine e_op H rfl rfl (by decide) (x_move H rfl rfl) ?_
        clear H a; intro a H
        refine e_op H rfl rfl (by decide) (x_assign H rfl rfl) ?_
        clear H a; intro a H
        refine e_nil (hR.out _ _ ?_)
        clear hR R
        refine hK18 _ _ ?_
        clear hK18 K18
        refine wp_seq_k (fun K19 hK19 => ?_)
        refine e_region (fun R hR => ?_)
        refine e_op H rfl rfl (by decide) (x_move H rfl rfl) ?_
        clear H a; intro a H
        refine e_op H rfl rfl (by decide) (x_move H rfl rfl) ?_
        clear H a; intro a H
        refine e_op H rfl rfl (by decide) (x_binI H rfl rfl rfl (b_mul (z := ((2 * k : Nat) : Int)) (by rw [IntKind.wrap_i64]; omega))) ?_
        clear H a; intro a H
        refine e_op H rfl rfl (by decide) (x_index (v := .int .u8 (bt l (2 * k) : Int)) H rfl rfl rfl (by rw [hl]; exact idx_str (m := 2 * k) Tryd.underlying9 rfl (by omega))) ?_
        clear H a; intro a H
        refine e_callp H rfl rfl (by decide) rfl rfl (Tryd.call47 _) (digit47_ok (bt l (2 * k)) (bt_lt l _) ha _) ?_
        clear H a; intro a H
        refine e_op H rfl rfl (by decide) (x_move H rfl rfl) ?_
        clear H a; intro a H
        refine e_op H rfl rfl (by decide) (x_extract H rfl rfl rfl) ?_
        clear H a; intro a H
        refine e_op H rfl rfl (by decide) (x_extract H rfl rfl rfl) ?_
        clear H a; intro a H
        refine e_op H rfl rfl (by decide) (x_assign H rfl rfl) ?_
        clear H a; intro a H
        refine e_op H rfl rfl (by decide) (x_assign H rfl rfl) ?_
        clear H a; intro a H
        refine e_nil (hR.out _ _ ?_)
        clear hR R
        refine hK19 _ _ ?_
        clear hK19 K19
        refine wp_seq_k (fun K20 hK20 => ?_)
        refine e_region (fun R hR => ?_)
        refine e_op H rfl rfl (by decide) (x_move H rfl rfl) ?_
        clear H a; intro a H
        refine e_op H rfl rfl (by decide) (x_move H rfl rfl) ?_
        clear H a; intro a H
        refine e_op H rfl rfl (by decide) (x_binI H rfl rfl rfl (b_mul (z := ((2 * k : Nat) : Int)) (by rw [IntKind.wrap_i64]; omega))) ?_
        clear H a; intro a H
        refine e_op H rfl rfl (by decide) (x_binI H rfl rfl rfl (b_add (z := ((2 * k + 1 : Nat) : Int)) (by rw [IntKind.wrap_i64]; omega))) ?_
        clear H a; intro a H
        refine e_op H rfl rfl (by decide) (x_index (v := .int .u8 (bt l (2 * k + 1) : Int)) H rfl rfl rfl (by rw [hl]; exact idx_str (m := 2 * k + 1) Tryd.underlying9 rfl (by omega))) ?_
        clear H a; intro a H
        refine e_callp H rfl rfl (by decide) rfl rfl (Tryd.call47 _) (digit47_no (bt l (2 * k + 1)) (bt_lt l _) hb _) ?_
        clear H a; intro a H
        refine e_op H rfl rfl (by decide) (x_move H rfl rfl) ?_
        clear H a; intro a H
        refine e_op H rfl rfl (by decide) (x_extract H rfl rfl rfl) ?_
        clear H a; intro a H
        refine e_op H rfl rfl (by decide) (x_extract H rfl rfl rfl) ?_
        clear H a; intro a H
        refine e_op H rfl rfl (by decide) (x_assign H rfl rfl) ?_
        clear H a; intro a H
        refine e_op H rfl rfl (by decide) (x_assign H rfl rfl) ?_
        clear H a; intro a H
        refine e_nil (hR.out _ _ ?_)
        clear hR R
        refine hK20 _ _ ?_
        clear hK20 K20
        refine wp_seq_k (fun K21 hK21 => ?_)
        refine wp_seq_k (fun K22 hK22 => ?_)
        refine e_region (fun R hR => ?_)
        refine e_op H rfl rfl (by decide) (x_move H rfl rfl) ?_
        clear H a; intro a H
        refine e_op H rfl rfl (by decide) (x_un H rfl rfl (u_not (c := false) (rfl))) ?_
        clear H a; intro a H
        refine e_op H rfl rfl (by decide) (x_move H rfl rfl) ?_
        clear H a; intro a H
        refine e_opg H (wanted_true H rfl rfl rfl rfl) rfl (by decide) (x_move H rfl rfl) ?_
        clear H a; intro a H
        refine e_opg H (wanted_true H rfl rfl rfl rfl) rfl (by decide) (x_un H rfl rfl (u_not (c := true) (rfl))) ?_
        clear H a; intro a H
        refine e_op H rfl rfl (by decide) (x_pickF H rfl rfl rfl) ?_
        clear H a; intro a H
        refine e_nil (hR.out _ _ ?_)
        clear hR R
        refine hK22 _ _ ?_
        clear hK22 K22
        refine c_true H rfl ?_
        refine wp_seq_k (fun K23 hK23 => ?_)
        refine e_region (fun R hR => ?_)
        refine e_op H rfl rfl (by decide) (x_build (v := .agg (u8s (List.replicate 32 0)).toArray) H rfl rfl (run_build _ 26 _ _ (by kernel_rfl))) ?_
        clear H a; intro a H
        refine e_st H rfl rfl (x_store H rfl rfl rfl (st_row D2 (by kernel_rfl) rfl (by kernel_rfl))) ?_
        refine e_op H rfl rfl (by decide) (x_assign H rfl rfl) ?_
        clear H a; intro a H
        refine e_nil (hR.out _ _ ?_)
        clear hR R
        refine hK23 _ _ ?_
        clear hK23 K23
        refine wp_ret ?_
        refine t_ret ?_
        refine b_ret ?_
        refine t_ret ?_
        refine t_ret ?_
        refine b_ret ?_
        refine t_ret ?_
        refine retct H rfl rfl rfl (setRow_heap _ _ _ _ 26 (0, 0) D2) Tryd.underlying26 rfl (by kernel_rfl) ⟨PPost_no (fun h => absurd (h.2 (2 * k + 1) (by omega)) (by unfold dig; omega)), E2.row_ (by omega) _⟩
      · skip
        skip
        refine wp_seq_k (fun K24 hK24 => ?_)
        refine e_region (fun R hR => ?_)
        refine e_op H rfl rfl (by decide) (x_binI H rfl rfl rfl (b_lss (b := true) (dec_t (by omega)))) ?_
        clear H a; intro a H
        refine e_nil (hR.out _ _ ?_)
        clear hR R
        refine hK24 _ _ ?_
        clear hK24 K24
        refine wp_seq_k (fun K25 hK25 => ?_)
        refine c_true H rfl ?_
        refine wp_skip ?_
        refine hK25 _ _ ?_
        clear hK25 K25
        refine wp_seq_k (fun K26 hK26 => ?_)
        refine wp_block ?_
        refine wp_seq_k (fun K27 hK27 => ?_)
        refine e_region (fun R hR => ?_)
        refine e_op H rfl rfl (by decide) (x_move H rfl rfl) ?_
        clear H a; intro a H
        refine e_op H rfl rfl (by decide) (x_assign H rfl rfl) ?_
        clear H a; intro a H
        refine e_nil (hR.out _ _ ?_)
        clear hR R
        refine hK27 _ _ ?_
        clear hK27 K27
        refine wp_seq_k (fun K28 hK28 => ?_)
        refine e_region (fun R hR => ?_)
        refine e_op H rfl rfl (by decide) (x_move H rfl rfl) ?_
        clear H a; intro a H
        refine e_op H rfl rfl (by decide) (x_move H rfl rfl) ?_
        clear H a; intro a H
        refine e_op H rfl rfl (by decide) (x_binI H rfl rfl rfl (b_mul (z := ((2 * k : Nat) : Int)) (by rw [IntKind.wrap_i64]; omega))) ?_
        clear H a; intro a H
        refine e_op H rfl rfl (by decide) (x_index (v := .int .u8 (bt l (2 * k) : Int)) H rfl rfl rfl (by rw [hl]; exact idx_str (m := 2 * k) Tryd.underlying9 rfl (by omega))) ?_
        clear H a; intro a H
        refine e_callp H rfl rfl (by decide) rfl rfl (Tryd.call47 _) (digit47_no (bt l (2 * k)) (bt_lt l _) ha _) ?_
        clear H a; intro a H
        refine e_op H rfl rfl (by decide) (x_move H rfl rfl) ?_
        clear H a; intro a H
        refine e_op H rfl rfl (by decide) (x_extract H rfl rfl rfl) ?_
        clear H a; intro a H
        refine e_op H rfl rfl (by decide) (x_extract H rfl rfl rfl) ?_
        clear H a; intro a H
        refine e_op H rfl rfl (by decide) (x_assign H rfl rfl) ?_
        clear H a; intro a H
        refine e_op H rfl rfl (by decide) (x_assign H rfl rfl) ?_
        clear H a; intro a H
        refine e_nil (hR.out _ _ ?_)
        clear hR R
        refine hK28 _ _ ?_
        clear hK28 K28
        refine wp_seq_k (fun K29 hK29 => ?_)
        refine e_region (fun R hR => ?_)
        refine e_op H rfl rfl (by decide) (x_move H rfl rfl) ?_
        clear H a; intro a H
        refine e_op H rfl rfl (by decide) (x_move H rfl rfl) ?_
        clear H a; intro a H
        refine e_op H rfl rfl (by decide) (x_binI H rfl rfl rfl (b_mul (z := ((2 * k : Nat) : Int)) (by rw [IntKind.wrap_i64]; omega))) ?_
        clear H a; intro a H
        refine e_op H rfl rfl (by decide) (x_binI H rfl rfl rfl (b_add (z := ((2 * k + 1 : Nat) : Int)) (by rw [IntKind.wrap_i64]; omega))) ?_
        clear H a; intro a H
        refine e_op H rfl rfl (by decide) (x_index (v := .int .u8 (bt l (2 * k + 1) : Int)) H rfl rfl rfl (by rw [hl]; exact idx_str (m := 2 * k + 1) Tryd.underlying9 rfl (by omega))) ?_
        clear H a; intro a H
        refine e_callp H rfl rfl (by decide) rfl rfl (Tryd.call47 _) (digit47_ok (bt l (2 * k + 1)) (bt_lt l _) hb _) ?_
        clear H a; intro a H
        refine e_op H rfl rfl (by decide) (x_move H rfl rfl) ?_
        clear H a; intro a H
        refine e_op H rfl rfl (by decide) (x_extract H rfl rfl rfl) ?_
        clear H a; intro a H
        refine e_op H rfl rfl (by decide) (x_extract H rfl rfl rfl) ?_
        clear H a; intro a H
        refine e_op H rfl rfl (by decide) (x_assign H rfl rfl) ?_
        clear H a; intro a H
        refine e_op H rfl rfl (by decide) (x_assign H rfl rfl) ?_
        clear H a; intro a H
        refine e_nil (hR.out _ _ ?_)
        clear hR R
        refine hK29 _ _ ?_
        clear hK29 K29
        refine wp_seq_k (fun K30 hK30 => ?_)
        refine wp_seq_k (fun K31 hK31 => ?_)
        refine e_region (fun R hR => ?_)
        refine e_op H rfl rfl (by decide) (x_move H rfl rfl) ?_
        clear H a; intro a H
        refine e_op H rfl rfl (by decide) (x_un H rfl rfl (u_not (c := true) (rfl))) ?_
        clear H a; intro a H
        refine e_op H rfl rfl (by decide) (x_move H rfl rfl) ?_
        clear H a; intro a H
        refine e_skip H (wanted_false H rfl rfl rfl rfl) rfl (by decide) ?_
        clear H a; intro a H
        refine e_skip H (wanted_false H rfl rfl rfl rfl) rfl (by decide) ?_
        clear H a; intro a H
        refine e_op H rfl rfl (by decide) (x_pickT H rfl rfl rfl) ?_
        clear H a; intro a H
        refine e_nil (hR.out _ _ ?_)
        clear hR R
        refine hK31 _ _ ?_
        clear hK31 K31
        refine c_true H rfl ?_
        refine wp_seq_k (fun K32 hK32 => ?_)
        refine e_region (fun R hR => ?_)
        refine e_op H rfl rfl (by decide) (x_build (v := .agg (u8s (List.replicate 32 0)).toArray) H rfl rfl (run_build _ 26 _ _ (by kernel_rfl))) ?_
        clear H a; intro a H
        refine e_st H rfl rfl (x_store H rfl rfl rfl (st_row D2 (by kernel_rfl) rfl (by kernel_rfl))) ?_
        refine e_op H rfl rfl (by decide) (x_assign H rfl rfl) ?_
        clear H a; intro a H
        refine e_nil (hR.out _ _ ?_)
        clear hR R
        refine hK32 _ _ ?_
        clear hK32 K32
        refine wp_ret ?_
        refine t_ret ?_
        refine b_ret ?_
        refine t_ret ?_
        refine t_ret ?_
        refine b_ret ?_
        refine t_ret ?_
        refine retct H rfl rfl rfl (setRow_heap _ _ _ _ 26 (0, 0) D2) Tryd.underlying26 rfl (by kernel_rfl) ⟨PPost_no (fun h => absurd (h.2 (2 * k) (by omega)) (by unfold dig; omega)), E2.row_ (by omega) _⟩
      · skip
        skip
        refine wp_seq_k (fun K33 hK33 => ?_)
        refine e_region (fun R hR => ?_)
        refine e_op H rfl rfl (by decide) (x_binI H rfl rfl rfl (b_lss (b := true) (dec_t (by omega)))) ?_
        clear H a; intro a H
        refine e_nil (hR.out _ _ ?_)
        clear hR R
        refine hK33 _ _ ?_
        clear hK33 K33
        refine wp_seq_k (fun K34 hK34 => ?_)
        refine c_true H rfl ?_
        refine wp_skip ?_
        refine hK34 _ _ ?_
        clear hK34 K34
        refine wp_seq_k (fun K35 hK35 => ?_)
        refine wp_block ?_
        refine wp_seq_k (fun K36 hK36 => ?_)
        refine e_region (fun R hR => ?_)
        refine e_op H rfl rfl (by decide) (x_move H rfl rfl) ?_
        clear H a; intro a H
        refine e_op H rfl rfl (by decide) (x_assign H rfl rfl) ?_
        clear H a; intro a H
        refine e_nil (hR.out _ _ ?_)
        clear hR R
        refine hK36 _ _ ?_
        clear hK36 K36
        refine wp_seq_k (fun K37 hK37 => ?_)
        refine e_region (fun R hR => ?_)
        refine e_op H rfl rfl (by decide) (x_move H rfl rfl) ?_
        clear H a; intro a H
        refine e_op H rfl rfl (by decide) (x_move H rfl rfl) ?_
        clear H a; intro a H
        refine e_op H rfl rfl (by decide) (x_binI H rfl rfl rfl (b_mul (z := ((2 * k : Nat) : Int)) (by rw [IntKind.wrap_i64]; omega))) ?_
        clear H a; intro a H
        refine e_op H rfl rfl (by decide) (x_index (v := .int .u8 (bt l (2 * k) : Int)) H rfl rfl rfl (by rw [hl]; exact idx_str (m := 2 * k) Tryd.underlying9 rfl (by omega))) ?_
        clear H a; intro a H
        refine e_callp H rfl rfl (by decide) rfl rfl (Tryd.call47 _) (digit47_no (bt l (2 * k)) (bt_lt l _) ha _) ?_
        clear H a; intro a H
        refine e_op H rfl rfl (by decide) (x_move H rfl rfl) ?_
        clear H a; intro a H
        refine e_op H rfl rfl (by decide) (x_extract H rfl rfl rfl) ?_
        clear H a; intro a H
        refine e_op H rfl rfl (by decide) (x_extract H rfl rfl rfl) ?_
        clear H a; intro a H
        refine e_op H rfl rfl (by decide) (x_assign H rfl rfl) ?_
        clear H a; intro a H
        refine e_op H rfl rfl (by decide) (x_assign H rfl rfl) ?_
        clear H a; intro a H
        refine e_nil (hR.out _ _ ?_)
        clear hR R
        refine hK37 _ _ ?_
        clear hK37 K37
        refine wp_seq_k (fun K38 hK38 => ?_)
        refine e_region (fun R hR => ?_)
        refine e_op H rfl rfl (by decide) (x_move H rfl rfl) ?_
        clear H a; intro a H
        refine e_op H rfl rfl (by decide) (x_move H rfl rfl) ?_
        clear H a; intro a H
        refine e_op H rfl rfl (by decide) (x_binI H rfl rfl rfl (b_mul (z := ((2 * k : Nat) : Int)) (by rw [IntKind.wrap_i64]; omega))) ?_
        clear H a; intro a H
        refine e_op H rfl rfl (by decide) (x_binI H rfl rfl rfl (b_add (z := ((2 * k + 1 : Nat) : Int)) (by rw [IntKind.wrap_i64]; omega))) ?_
        clear H a; intro a H
        refine e_op H rfl rfl (by decide) (x_index (v := .int .u8 (bt l (2 * k + 1) : Int)) H rfl rfl rfl (by rw [hl]; exact idx_str (m := 2 * k + 1) Tryd.underlying9 rfl (by omega))) ?_
        clear H a; intro a H
        refine e_callp H rfl rfl (by decide) rfl rfl (Tryd.call47 _) (digit47_no (bt l (2 * k + 1)) (bt_lt l _) hb _) ?_
        clear H a; intro a H
        refine e_op H rfl rfl (by decide) (x_move H rfl rfl) ?_
        clear H a; intro a H
        refine e_op H rfl rfl (by decide) (x_extract H rfl rfl rfl) ?_
        clear H a; intro a H
        refine e_op H rfl rfl (by decide) (x_extract H rfl rfl rfl) ?_
        clear H a; intro a H
        refine e_op H rfl rfl (by decide) (x_assign H rfl rfl) ?_
        clear H a; intro a H
        refine e_op H rfl rfl (by decide) (x_assign H rfl rfl) ?_
        clear H a; intro a H
        refine e_nil (hR.out _ _ ?_)
        clear hR R
        refine hK38 _ _ ?_
        clear hK38 K38
        refine wp_seq_k (fun K39 hK39 => ?_)
        refine wp_seq_k (fun K40 hK40 => ?_)
        refine e_region (fun R hR => ?_)
        refine e_op H rfl rfl (by decide) (x_move H rfl rfl) ?_
        clear H a; intro a H
        refine e_op H rfl rfl (by decide) (x_un H rfl rfl (u_not (c := true) (rfl))) ?_
        clear H a; intro a H
        refine e_op H rfl rfl (by decide) (x_move H rfl rfl) ?_
        clear H a; intro a H
        refine e_skip H (wanted_false H rfl rfl rfl rfl) rfl (by decide) ?_
        clear H a; intro a H
        refine e_skip H (wanted_false H rfl rfl rfl rfl) rfl (by decide) ?_
        clear H a; intro a H
        refine e_op H rfl rfl (by decide) (x_pickT H rfl rfl rfl) ?_
        clear H a; intro a H
        refine e_nil (hR.out _ _ ?_)
        clear hR R
        refine hK40 _ _ ?_
        clear hK40 K40
        refine c_true H rfl ?_
        refine wp_seq_k (fun K41 hK41 => ?_)
        refine e_region (fun R hR => ?_)
        refine e_op H rfl rfl (by decide) (x_build (v := .agg (u8s (List.replicate 32 0)).toArray) H rfl rfl (run_build _ 26 _ _ (by kernel_rfl))) ?_
        clear H a; intro a H
        refine e_st H rfl rfl (x_store H rfl rfl rfl (st_row D2 (by kernel_rfl) rfl (by kernel_rfl))) ?_
        refine e_op H rfl rfl (by decide) (x_assign H rfl rfl) ?_
        clear H a; intro a H
        refine e_nil (hR.out _ _ ?_)
        clear hR R
        refine hK41 _ _ ?_
        clear hK41 K41
        refine wp_ret ?_
        refine t_ret ?_
        refine b_ret ?_
        refine t_ret ?_
        refine t_ret ?_
        refine b_ret ?_
        refine t_ret ?_
        refine retct H rfl rfl rfl (setRow_heap _ _ _ _ 26 (0, 0) D2) Tryd.underlying26 rfl (by kernel_rfl) ⟨PPost_no (fun h => absurd (h.2 (2 * k) (by omega)) (by unfold dig; omega)), E2.row_ (by omega) _⟩
      · skip
        have hg : good l := ⟨h64, fun j hj => hok j (by omega)⟩
        have Q1 : Blk w g4 26 (u8s (unhex l)) := by simpa [unhex] using Q1
        refine wp_seq_k (fun K42 hK42 => ?_)
        refine e_region (fun R hR => ?_)
        refine e_op H rfl rfl (by decide) (x_binI H rfl rfl rfl (b_lss (b := false) (dec_f (by omega)))) ?_
        clear H a; intro a H
        refine e_nil (hR.out _ _ ?_)
        clear hR R
        refine hK42 _ _ ?_
        clear hK42 K42
        refine wp_seq_k (fun K43 hK43 => ?_)
        refine c_false H rfl ?_
        refine wp_exit ?_
        refine t_exit ?_
        refine t_exit ?_
        refine b_hit ?_
        clear hK43 K43
        refine hK5 _ _ ?_
        clear hK5 K5
        refine wp_seq_k (fun K44 hK44 => ?_)
        refine e_region (fun R hR => ?_)
        refine e_op H rfl rfl (by decide) (x_load H rfl rfl (l_row Q1 Tryd.underlying26 rfl (by rw [size_d (unhex l) (unhexP_len l 32)]; kernel_rfl))) ?_
        clear H a; intro a H
        refine e_st H rfl rfl (x_store H rfl rfl rfl (st_row D2 (by rw [size_d (unhex l) (unhexP_len l 32)]; kernel_rfl) (by rw [size_d (unhex l) (unhexP_len l 32)]; rfl) (one_u8 _))) ?_
        refine e_op H rfl rfl (by decide) (x_assign H rfl rfl) ?_
        clear H a; intro a H
        refine e_nil (hR.out _ _ ?_)
        clear hR R
        refine hK44 _ _ ?_
        clear hK44 K44
        refine wp_ret ?_
        refine retct H rfl rfl rfl (setRow_heap _ _ _ _ 26 (0, 0) D2) Tryd.underlying26 rfl (by rw [size_d (unhex l) (unhexP_len l 32)]; kernel_rfl) ⟨PPost_yes hg, E2.row_ (by omega) _⟩
  · skip
    refine calls_has (args := [.string s]) Tryd.func31 rfl Tryd.ntmps31 (Nat.le_of_ble_eq_true rfl) (fun a H => ?_)
    simp only [argl, Nat.reduceAdd] at H
    refine wp_seq_k (fun K1 hK1 => ?_)
    refine e_region (fun R hR => ?_)
    refine e_op H rfl rfl (by decide) (x_alloc H rfl (al_new (z26 _))) ?_
    clear H a; intro a H
    have D1 := Blk.new w0 26 (u8s (List.replicate 32 0))
    have E1 := (Ext.refl w0).al (.cells (u8s (List.replicate 32 0)).toArray 26)
    obtain ⟨gd, hgd⟩ : ∃ gd, gd = w0.heap.size := ⟨_, rfl⟩
    rw [← hgd] at H D1
    have hs1 := E1.sz
    generalize w0.alloc (.cells (u8s (List.replicate 32 0)).toArray 26) = w1 at *
    refine e_op H rfl rfl (by decide) (x_assign H rfl rfl) ?_
    clear H a; intro a H
    refine e_nil (hR.out _ _ ?_)
    clear hR R
    refine hK1 _ _ ?_
    clear hK1 K1
    refine wp_seq_k (fun K2 hK2 => ?_)
    refine e_region (fun R hR => ?_)
    refine e_op H rfl rfl (by decide) (x_alloc H rfl (al_new (z26 _))) ?_
    clear H a; intro a H
    have Q1 := Blk.new w1 26 (u8s (List.replicate 32 0))
    have E2 := E1.al (.cells (u8s (List.replicate 32 0)).toArray 26)
    have D2 := D1.alloc (.cells (u8s (List.replicate 32 0)).toArray 26)
    obtain ⟨g4, hg4⟩ : ∃ g4, g4 = w1.heap.size := ⟨_, rfl⟩
    rw [← hg4] at H Q1
    have hd4 : gd < g4 := by have := D1.lt; omega
    generalize w1.alloc (.cells (u8s (List.replicate 32 0)).toArray 26) = w2 at *
    clear D1 E1
    refine e_nil (hR.out _ _ ?_)
    clear hR R
    refine hK2 _ _ ?_
    clear hK2 K2
    refine wp_seq_k (fun K3 hK3 => ?_)
    refine wp_seq_k (fun K4 hK4 => ?_)
    refine e_region (fun R hR => ?_)
    refine e_op H rfl rfl (by decide) (x_move H rfl rfl) ?_
    clear H a; intro a H
    refine e_op H rfl rfl (by decide) (x_builtin H rfl rfl (fun cs => len_str Tryd.underlying9)) ?_
    clear H a; intro a H
    refine e_op H rfl rfl (by decide) (x_binI H rfl rfl rfl (b_neq (b := true) (bne_t (by omega)))) ?_
    clear H a; intro a H
    refine e_nil (hR.out _ _ ?_)
    clear hR R
    refine hK4 _ _ ?_
    clear hK4 K4
    refine c_true H rfl ?_
    refine wp_seq_k (fun K5 hK5 => ?_)
    refine e_region (fun R hR => ?_)
    refine e_op H rfl rfl (by decide) (x_build (v := .agg (u8s (List.replicate 32 0)).toArray) H rfl rfl (run_build _ 26 _ _ (by kernel_rfl))) ?_
    clear H a; intro a H
    refine e_st H rfl rfl (x_store H rfl rfl rfl (st_row D2 (by kernel_rfl) rfl (by kernel_rfl))) ?_
    refine e_op H rfl rfl (by decide) (x_assign H rfl rfl) ?_
    clear H a; intro a H
    refine e_nil (hR.out _ _ ?_)
    clear hR R
    refine hK5 _ _ ?_
    clear hK5 K5
    refine wp_ret ?_
    refine t_ret ?_
    refine retct H rfl rfl rfl (setRow_heap _ _ _ _ 26 (0, 0) D2) Tryd.underlying26 rfl (by kernel_rfl) ⟨PPost_no (fun h => h64 h.1), E2.row_ (by omega) _⟩
set_option maxHeartbeats 1000000 in
theorem refparse_any (s : ByteArray) (l : List UInt8) (hl : l = s.data.toList) (w0 : World) : Calls Tryd.prog 33 #[.string s] w0 fun e w' => PPost l e ∧ Ext w0 w' := by
  have hsz : s.size = l.length := by rw [hl, size_list]
  by_cases h64 : l.length = 64
  · skip
    refine calls_has (args := [.string s]) Tryd.func33 rfl Tryd.ntmps33 (Nat.le_of_ble_eq_true rfl) (fun a H => ?_)
    simp only [argl, Nat.reduceAdd] at H
    refine wp_seq_k (fun K1 hK1 => ?_)
    refine e_region (fun R hR => ?_)
    refine e_op H rfl rfl (by decide) (x_alloc H rfl (al_new (z25 _))) ?_
    clear H a; intro a H
    have D1 := Blk.new w0 25 (u8s (List.replicate 32 0))
    have E1 := (Ext.refl w0).al (.cells (u8s (List.replicate 32 0)).toArray 25)
    obtain ⟨gd, hgd⟩ : ∃ gd, gd = w0.heap.size := ⟨_, rfl⟩
    rw [← hgd] at H D1
    have hs1 := E1.sz
    generalize w0.alloc (.cells (u8s (List.replicate 32 0)).toArray 25) = w1 at *
    refine e_op H rfl rfl (by decide) (x_assign H rfl rfl) ?_
    clear H a; intro a H
    refine e_nil (hR.out _ _ ?_)
    clear hR R
    refine hK1 _ _ ?_
    clear hK1 K1
    refine wp_seq_k (fun K2 hK2 => ?_)
    refine e_region (fun R hR => ?_)
    refine e_op H rfl rfl (by decide) (x_alloc H rfl (al_new (z25 _))) ?_
    clear H a; intro a H
    have Q1 := Blk.new w1 25 (u8s (List.replicate 32 0))
    have E2 := E1.al (.cells (u8s (List.replicate 32 0)).toArray 25)
    have D2 := D1.alloc (.cells (u8s (List.replicate 32 0)).toArray 25)
    obtain ⟨g4, hg4⟩ : ∃ g4, g4 = w1.heap.size := ⟨_, rfl⟩
    rw [← hg4] at H Q1
    have hd4 : gd < g4 := by have := D1.lt; omega
    generalize w1.alloc (.cells (u8s (List.replicate 32 0)).toArray 25) = w2 at *
    clear D1 E1
    refine e_nil (hR.out _ _ ?_)
    clear hR R
    refine hK2 _ _ ?_
    clear hK2 K2
    refine wp_seq_k (fun K3 hK3 => ?_)
    refine wp_seq_k (fun K4 hK4 => ?_)
    refine e_region (fun R hR => ?_)
    refine e_op H rfl rfl (by decide) (x_move H rfl rfl) ?_
    clear H a; intro a H
    refine e_op H rfl rfl (by decide) (x_builtin H rfl rfl (fun cs => len_str Tryd.underlying9)) ?_
    clear H a; intro a H
    refine e_op H rfl rfl (by decide) (x_binI H rfl rfl rfl (b_neq (b := false) (bne_f (by omega)))) ?_
    clear H a; intro a H
    refine e_nil (hR.out _ _ ?_)
    clear hR R
    refine hK4 _ _ ?_
    clear hK4 K4
    refine c_false H rfl ?_
    refine wp_skip ?_
    refine hK3 _ _ ?_
    clear hK3 K3
    refine wp_seq_k (fun K5 hK5 => ?_)
    refine wp_seq_k (fun K6 hK6 => ?_)
    refine e_region (fun R hR => ?_)
    refine e_op H rfl rfl (by decide) (x_assign H rfl rfl) ?_
    clear H a; intro a H
    refine e_nil (hR.out _ _ ?_)
    clear hR R
    refine hK6 _ _ ?_
    clear hK6 K6
    refine wp_block ?_
    refine wp_loop_ghost (fun n a w => ∃ k : Nat, k ≤ 64 ∧ n = 64 - k ∧ Has a 34 [(0, .string s), (2, .pointer (some ⟨gd, 0, none⟩)), (4, .pointer (some ⟨g4, 0, none⟩)), (5, .int .i64 (k : Int))] ∧ (∀ j, j < k → 0 ≤ dig l j) ∧ Blk w g4 25 (u8s (rp l k)) ∧ Blk w gd 25 (u8s (List.replicate 32 0)) ∧ Ext w0 w) (64) ?_ ?_
    · skip
      exact ⟨0, by omega, rfl, H.sub ⟨rfl, rfl, rfl, rfl, trivial⟩, fun j hj => by omega, by rw [rp_zero]; exact Q1, D2, E2⟩
    · skip
      clear H a Q1 D2 E2
      intro n a w hI
      clear w2
      obtain ⟨k, hk, rfl, H, hok, Q1, D2, E2⟩ := hI
      have hs2 := E2.sz
      rcases (show (k < 64 ∧ 0 ≤ digv (bt l k)) ∨ (k < 64 ∧ digv (bt l k) < 0) ∨ k = 64 by omega) with ⟨hlt, ha⟩ | ⟨hlt, ha⟩ | rfl
      · skip
        obtain ⟨α, hα⟩ : ∃ α : Nat, digv (bt l k) = (α : Int) := ⟨(digv (bt l k)).toNat, by omega⟩
        have hαl := digv_le (bt l k)
        have hro : rold l k ≤ 15 := by unfold rold; split; omega; have := digv_le (bt l (k - 1)); unfold dig; omega
        have hold : w.cell? ⟨g4, k / 2, none⟩ = some (.int .u8 (rold l k : Int)) := by
          rw [Q1.cell, u8s_get _ _ (by rw [rp_len]; omega), nb_bt, rp_at l k hlt (fun j _ => digv_le _)]
        refine wp_seq_k (fun K7 hK7 => ?_)
        refine wp_seq_k (fun K8 hK8 => ?_)
        refine e_region (fun R hR => ?_)
        refine e_op H rfl rfl (by decide) (x_move H rfl rfl) ?_
        clear H a; intro a H
        refine e_op H rfl rfl (by decide) (x_binI H rfl rfl rfl (b_lss (b := true) (dec_t (by omega)))) ?_
        clear H a; intro a H
        refine e_nil (hR.out _ _ ?_)
        clear hR R
        refine hK8 _ _ ?_
        clear hK8 K8
        refine c_true H rfl ?_
        refine wp_skip ?_
        refine hK7 _ _ ?_
        clear hK7 K7
        refine wp_seq_k (fun K9 hK9 => ?_)
        refine wp_block ?_
        refine wp_seq_k (fun K10 hK10 => ?_)
        refine e_region (fun R hR => ?_)
        refine e_op H rfl rfl (by decide) (x_move H rfl rfl) ?_
        clear H a; intro a H
        refine e_op H rfl rfl (by decide) (x_move H rfl rfl) ?_
        clear H a; intro a H
        refine e_op H rfl rfl (by decide) (x_index (v := .int .u8 (bt l (k) : Int)) H rfl rfl rfl (by rw [hl]; exact idx_str (m := k) Tryd.underlying9 rfl (by omega))) ?_
        clear H a; intro a H
        refine e_callp H rfl rfl (by decide) rfl rfl (Tryd.call48 _) (digit48_any (bt l k) (bt_lt l _) _) ?_
        clear H a; intro a H
        refine e_op H rfl rfl (by decide) (x_assign H rfl rfl) ?_
        clear H a; intro a H
        refine e_nil (hR.out _ _ ?_)
        clear hR R
        refine hK10 _ _ ?_
        clear hK10 K10
        refine wp_seq_k (fun K11 hK11 => ?_)
        refine wp_seq_k (fun K12 hK12 => ?_)
        refine e_region (fun R hR => ?_)
        refine e_op H rfl rfl (by decide) (x_move H rfl rfl) ?_
        clear H a; intro a H
        refine e_op H rfl rfl (by decide) (x_binI H rfl rfl rfl (b_lss (b := false) (dec_f (by omega)))) ?_
        clear H a; intro a H
        refine e_nil (hR.out _ _ ?_)
        clear hR R
        refine hK12 _ _ ?_
        clear hK12 K12
        refine c_false H rfl ?_
        refine wp_skip ?_
        refine hK11 _ _ ?_
        clear hK11 K11
        refine e_region (fun R hR => ?_)
        refine e_op H rfl rfl (by decide) (x_move H rfl rfl) ?_
        clear H a; intro a H
        refine e_op H rfl rfl (by decide) (x_binI H rfl rfl rfl (b_quo (z := ((k / 2 : Nat) : Int)) (by decide) (by rw [Int.tdiv_eq_ediv_of_nonneg (by omega), IntKind.wrap_i64]; omega))) ?_
        clear H a; intro a H
        refine e_op H rfl rfl (by decide) (x_move H rfl rfl) ?_
        clear H a; intro a H
        refine e_op H rfl rfl (by decide) (x_binI H rfl rfl rfl (b_quo (z := ((k / 2 : Nat) : Int)) (by decide) (by rw [Int.tdiv_eq_ediv_of_nonneg (by omega), IntKind.wrap_i64]; omega))) ?_
        clear H a; intro a H
        refine e_op H rfl rfl (by decide) (x_indexAddr H rfl rfl rfl (i_arr0 (m := k / 2) Tryd.underlying25 Tryd.sizeOf5 rfl (by omega))) ?_
        clear H a; intro a H
        refine e_op H rfl rfl (by decide) (x_load H rfl rfl (l_cell Tryd.isAgg5 (hold))) ?_
        clear H a; intro a H
        refine e_op H rfl rfl (by decide) (x_binI H rfl rfl rfl (b_mul (z := ((rold l k * 16 : Nat) : Int)) (by rw [IntKind.wrap_u8]; omega))) ?_
        clear H a; intro a H
        refine e_op H rfl rfl (by decide) (x_move H rfl rfl) ?_
        clear H a; intro a H
        refine e_op H rfl rfl (by decide) (x_conv H rfl rfl (c_int (z := (α : Int)) Tryd.underlying3 Tryd.underlying5 (by rw [hα, IntKind.wrap_u8]; omega))) ?_
        clear H a; intro a H
        refine e_op H rfl rfl (by decide) (x_binI H rfl rfl rfl (b_add (z := ((UInt8.ofNat (rold l k * 16 + α)).toNat : Int)) (by rw [IntKind.wrap_u8, ofNat_mod]; omega))) ?_
        clear H a; intro a H
        refine e_op H rfl rfl (by decide) (x_indexAddr H rfl rfl rfl (i_arr0 (m := k / 2) Tryd.underlying25 Tryd.sizeOf5 rfl (by omega))) ?_
        clear H a; intro a H
        refine e_st H rfl rfl (x_store H rfl rfl rfl (st_cell rfl rfl Tryd.sizeOf5 (Q1.frozen (k / 2)) (Q1.isSome (k / 2) (by simp [u8s_len, rp_len]; omega)))) ?_
        have Q2 := Q1.setU8 (k / 2) (UInt8.ofNat (rold l k * 16 + α))
        have hαd : (dig l k).toNat = α := by unfold dig; omega
        rw [← hαd, rp_succ l k hlt] at Q2
        have D3 := D2.far (b := g4) (o := k / 2) (by omega) (.int .u8 ((UInt8.ofNat (rold l k * 16 + α)).toNat : Int))
        have E3 := E2.st (g := g4) (by omega) (k / 2) (.int .u8 ((UInt8.ofNat (rold l k * 16 + α)).toNat : Int))
        rw [← hαd] at D3 E3 ⊢
        refine e_nil (hR.out _ _ ?_)
        clear hR R
        refine hK9 _ _ ?_
        clear hK9 K9
        refine e_region (fun R hR => ?_)
        refine e_op H rfl rfl (by decide) (x_move H rfl rfl) ?_
        clear H a; intro a H
        refine e_op H rfl rfl (by decide) (x_binI H rfl rfl rfl (b_add (z := ((k + 1 : Nat) : Int)) (by rw [IntKind.wrap_i64]; omega))) ?_
        clear H a; intro a H
        refine e_op H rfl rfl (by decide) (x_assign H rfl rfl) ?_
        clear H a; intro a H
        refine e_nil (hR.out _ _ ?_)
        clear hR R
        refine ⟨64 - (k + 1), by omega, k + 1, by omega, rfl, H.sub ⟨rfl, rfl, rfl, rfl, trivial⟩, fun j hj => ?_, Q2, D3, E3⟩
        rcases (show j < k ∨ j = k by omega) with h | h
        · exact hok j h
        · rw [h]; exact ha
      · skip
        skip
        refine wp_seq_k (fun K13 hK13 => ?_)
        refine wp_seq_k (fun K14 hK14 => ?_)
        refine e_region (fun R hR => ?_)
        refine e_op H rfl rfl (by decide) (x_move H rfl rfl) ?_
        clear H a; intro a H
        refine e_op H rfl rfl (by decide) (x_binI H rfl rfl rfl (b_lss (b := true) (dec_t (by omega)))) ?_
        clear H a; intro a H
        refine e_nil (hR.out _ _ ?_)
        clear hR R
        refine hK14 _ _ ?_
        clear hK14 K14
        refine c_true H rfl ?_
        refine wp_skip ?_
        refine hK13 _ _ ?_
        clear hK13 K13
        refine wp_seq_k (fun K15 hK15 => ?_)
        refine wp_block ?_
        refine wp_seq_k (fun K16 hK16 => ?_)
        refine e_region (fun R hR => ?_)
        refine e_op H rfl rfl (by decide) (x_move H rfl rfl) ?_
        clear H a; intro a H
        refine e_op H rfl rfl (by decide) (x_move H rfl rfl) ?_
        clear H a; intro a H
        refine e_op H rfl rfl (by decide) (x_index (v := .int .u8 (bt l (k) : Int)) H rfl rfl rfl (by rw [hl]; exact idx_str (m := k) Tryd.underlying9 rfl (by omega))) ?_
        clear H a; intro a H
        refine e_callp H rfl rfl (by decide) rfl rfl (Tryd.call48 _) (digit48_any (bt l k) (bt_lt l _) _) ?_
        clear H a; intro a H
        refine e_op H rfl rfl (by decide) (x_assign H rfl rfl) ?_
        clear H a; intro a H
        refine e_nil (hR.out _ _ ?_)
        clear hR R
        refine hK16 _ _ ?_
        clear hK16 K16
        refine wp_seq_k (fun K17 hK17 => ?_)
        refine wp_seq_k (fun K18 hK18 => ?_)
        refine e_region (fun R hR => ?_)
        refine e_op H rfl rfl (by decide) (x_move H rfl rfl) ?_
        clear H a; intro a H
        refine e_op H rfl rfl (by decide) (x_binI H rfl rfl rfl (b_lss (b := true) (dec_t (by omega)))) ?_
        clear H a; intro a H
        refine e_nil (hR.out _ _ ?_)
        clear hR R
        refine hK18 _ _ ?_
        clear hK18 K18
        refine c_true H rfl ?_
        refine wp_seq_k (fun K19 hK19 => ?_)
        refine e_region (fun R hR => ?_)
        refine e_op H rfl rfl (by decide) (x_build (v := .agg (u8s (List.replicate 32 0)).toArray) H rfl rfl (run_build _ 25 _ _ (by kernel_rfl))) ?_
        clear H a; intro a H
        refine e_st H rfl rfl (x_store H rfl rfl rfl (st_row D2 (by kernel_rfl) rfl (by kernel_rfl))) ?_
        refine e_op H rfl rfl (by decide) (x_assign H rfl rfl) ?_
        clear H a; intro a H
        refine e_nil (hR.out _ _ ?_)
        clear hR R
        refine hK19 _ _ ?_
        clear hK19 K19
        refine wp_ret ?_
        refine t_ret ?_
        refine b_ret ?_
        refine t_ret ?_
        refine t_ret ?_
        refine b_ret ?_
        refine t_ret ?_
        refine retct H rfl rfl rfl (setRow_heap _ _ _ _ 25 (0, 0) D2) Tryd.underlying25 rfl (by kernel_rfl) ⟨PPost_no (fun h => absurd (h.2 k (by omega)) (by unfold dig; omega)), E2.row_ (by omega) _⟩
      · skip
        have hg : good l := ⟨h64, fun j hj => hok j (by omega)⟩
        rw [rp_end] at Q1
        refine wp_seq_k (fun K20 hK20 => ?_)
        refine wp_seq_k (fun K21 hK21 => ?_)
        refine e_region (fun R hR => ?_)
        refine e_op H rfl rfl (by decide) (x_move H rfl rfl) ?_
        clear H a; intro a H
        refine e_op H rfl rfl (by decide) (x_binI H rfl rfl rfl (b_lss (b := false) (dec_f (by omega)))) ?_
        clear H a; intro a H
        refine e_nil (hR.out _ _ ?_)
        clear hR R
        refine hK21 _ _ ?_
        clear hK21 K21
        refine c_false H rfl ?_
        refine wp_exit ?_
        refine t_exit ?_
        refine t_exit ?_
        refine b_hit ?_
        clear hK20 K20
        refine hK5 _ _ ?_
        clear hK5 K5
        refine wp_seq_k (fun K22 hK22 => ?_)
        refine e_region (fun R hR => ?_)
        refine e_op H rfl rfl (by decide) (x_load H rfl rfl (l_row Q1 Tryd.underlying25 rfl (by rw [size_d (unhex l) (unhexP_len l 32)]; kernel_rfl))) ?_
        clear H a; intro a H
        refine e_st H rfl rfl (x_store H rfl rfl rfl (st_row D2 (by rw [size_d (unhex l) (unhexP_len l 32)]; kernel_rfl) (by rw [size_d (unhex l) (unhexP_len l 32)]; rfl) (one_u8 _))) ?_
        refine e_op H rfl rfl (by decide) (x_assign H rfl rfl) ?_
        clear H a; intro a H
        refine e_nil (hR.out _ _ ?_)
        clear hR R
        refine hK22 _ _ ?_
        clear hK22 K22
        refine wp_ret ?_
        refine retct H rfl rfl rfl (setRow_heap _ _ _ _ 25 (0, 0) D2) Tryd.underlying25 rfl (by rw [size_d (unhex l) (unhexP_len l 32)]; kernel_rfl) ⟨PPost_yes hg, E2.row_ (by omega) _⟩
  · skip
    refine calls_has (args := [.string s]) Tryd.func33 rfl Tryd.ntmps33 (Nat.le_of_ble_eq_true rfl) (fun a H => ?_)
    simp only [argl, Nat.reduceAdd] at H
    refine wp_seq_k (fun K1 hK1 => ?_)
    refine e_region (fun R hR => ?_)
    refine e_op H rfl rfl (by decide) (x_alloc H rfl (al_new (z25 _))) ?_
    clear H a; intro a H
    have D1 := Blk.new w0 25 (u8s (List.replicate 32 0))
    have E1 := (Ext.refl w0).al (.cells (u8s (List.replicate 32 0)).toArray 25)
    obtain ⟨gd, hgd⟩ : ∃ gd, gd = w0.heap.size := ⟨_, rfl⟩
    rw [← hgd] at H D1
    have hs1 := E1.sz
    generalize w0.alloc (.cells (u8s (List.replicate 32 0)).toArray 25) = w1 at *
    refine e_op H rfl rfl (by decide) (x_assign H rfl rfl) ?_
    clear H a; intro a H
    refine e_nil (hR.out _ _ ?_)
    clear hR R
    refine hK1 _ _ ?_
    clear hK1 K1
    refine wp_seq_k (fun K2 hK2 => ?_)
    refine e_region (fun R hR => ?_)
    refine e_op H rfl rfl (by decide) (x_alloc H rfl (al_new (z25 _))) ?_
    clear H a; intro a H
    have Q1 := Blk.new w1 25 (u8s (List.replicate 32 0))
    have E2 := E1.al (.cells (u8s (List.replicate 32 0)).toArray 25)
    have D2 := D1.alloc (.cells (u8s (List.replicate 32 0)).toArray 25)
    obtain ⟨g4, hg4⟩ : ∃ g4, g4 = w1.heap.size := ⟨_, rfl⟩
    rw [← hg4] at H Q1
    have hd4 : gd < g4 := by have := D1.lt; omega
    generalize w1.alloc (.cells (u8s (List.replicate 32 0)).toArray 25) = w2 at *
    clear D1 E1
    refine e_nil (hR.out _ _ ?_)
    clear hR R
    refine hK2 _ _ ?_
    clear hK2 K2
    refine wp_seq_k (fun K3 hK3 => ?_)
    refine wp_seq_k (fun K4 hK4 => ?_)
    refine e_region (fun R hR => ?_)
    refine e_op H rfl rfl (by decide) (x_move H rfl rfl) ?_
    clear H a; intro a H
    refine e_op H rfl rfl (by decide) (x_builtin H rfl rfl (fun cs => len_str Tryd.underlying9)) ?_
    clear H a; intro a H
    refine e_op H rfl rfl (by decide) (x_binI H rfl rfl rfl (b_neq (b := true) (bne_t (by omega)))) ?_
    clear H a; intro a H
    refine e_nil (hR.out _ _ ?_)
    clear hR R
    refine hK4 _ _ ?_
    clear hK4 K4
    refine c_true H rfl ?_
    refine wp_seq_k (fun K5 hK5 => ?_)
    refine e_region (fun R hR => ?_)
    refine e_op H rfl rfl (by decide) (x_load H rfl rfl (l_row Q1 Tryd.underlying25 rfl (by kernel_rfl))) ?_
    clear H a; intro a H
    refine e_st H rfl rfl (x_store H rfl rfl rfl (st_row D2 (by kernel_rfl) rfl (by kernel_rfl))) ?_
    refine e_op H rfl rfl (by decide) (x_assign H rfl rfl) ?_
    clear H a; intro a H
    refine e_nil (hR.out _ _ ?_)
    clear hR R
    refine hK5 _ _ ?_
    clear hK5 K5
    refine wp_ret ?_
    refine t_ret ?_
    refine retct H rfl rfl rfl (setRow_heap _ _ _ _ 25 (0, 0) D2) Tryd.underlying25 rfl (by kernel_rfl) ⟨PPost_no (fun h => h64 h.1), E2.row_ (by omega) _⟩
theorem ext_hx : ∀ m : Fin 16, HX.extract m.val (m.val + 1) = ⟨#[hexd m.val]⟩ := by decide +kernel
theorem sl_hx {w : World} {m : Nat} {i j : Int} (hi : i = (m : Int)) (hj : j = ((m + 1 : Nat) : Int)) (hm : m < 16) : (Instr.sliceAt 9 (.string HX) (some (.int .u8 i)) (some (.int .u8 j)) none).run Tryd.prog w = .ok (.string ⟨#[hexd m]⟩) w := by
  subst hi hj
  rw [run_sliceAt_string (P := Tryd.prog) w 9 _ _ _ _ Tryd.underlying9, run_slice_string (P := Tryd.prog) w 9 HX .u8 .u8 (m : Int) ((m + 1 : Nat) : Int) Tryd.underlying9 (by omega) (by omega) (by show ((m + 1 : Nat) : Int) ≤ ((16 : Nat) : Int); omega), ← ext_hx ⟨m, hm⟩]
  simp
theorem sz_arr (l : List UInt8) : (⟨l.toArray⟩ : ByteArray).size = l.length := by simp [ByteArray.size]
theorem sz_one (c : UInt8) : (⟨#[c]⟩ : ByteArray).size = 1 := rfl
theorem cat_one (l : List UInt8) (c : UInt8) : (⟨l.toArray⟩ : ByteArray) ++ ⟨#[c]⟩ = ⟨(l ++ [c]).toArray⟩ := by
  apply ByteArray.ext
  simp
theorem reftext_any (d : List UInt8) (hd : d.length = 32) (w0 : World) :
    Calls Tryd.prog 32 #[.agg (u8s d).toArray] w0 fun e w' => e = .returned (.string ⟨(hex d).toArray⟩) ∧ Ext w0 w' := by
  refine calls_has (args := [.agg (u8s d).toArray]) Tryd.func32 rfl Tryd.ntmps32 (Nat.le_of_ble_eq_true rfl) (fun a H => ?_)
  simp only [argl, Nat.reduceAdd] at H
  refine wp_seq_k (fun K1 hK1 => ?_)
  refine e_region (fun R hR => ?_)
  refine e_op H rfl rfl (by decide) (x_box H rfl rfl bx_new) ?_
  clear H a; intro a H
  have T1 := Blk.new w0 25 (u8s d)
  have E1 := (Ext.refl w0).al (.cells (u8s d).toArray 25)
  obtain ⟨gt, hgt⟩ : ∃ gt, gt = w0.heap.size := ⟨_, rfl⟩
  rw [← hgt] at H T1
  have hs1 := E1.sz
  generalize w0.alloc (.cells (u8s d).toArray 25) = w1 at *
  refine e_op H rfl rfl (by decide) (x_assign H rfl rfl) ?_
  clear H a; intro a H
  refine e_nil (hR.out _ _ ?_)
  clear hR R
  refine hK1 _ _ ?_
  clear hK1 K1
  refine wp_seq_k (fun K2 hK2 => ?_)
  refine e_region (fun R hR => ?_)
  refine e_op H rfl rfl (by decide) (x_assign H rfl rfl) ?_
  clear H a; intro a H
  refine e_nil (hR.out _ _ ?_)
  clear hR R
  refine hK2 _ _ ?_
  clear hK2 K2
  refine wp_seq_k (fun K3 hK3 => ?_)
  refine wp_seq_k (fun K4 hK4 => ?_)
  refine e_region (fun R hR => ?_)
  refine e_op H rfl rfl (by decide) (x_assign H rfl rfl) ?_
  clear H a; intro a H
  refine e_nil (hR.out _ _ ?_)
  clear hR R
  refine hK4 _ _ ?_
  clear hK4 K4
  refine wp_block ?_
  refine wp_loop_ghost (fun n a w => ∃ i : Nat, i ≤ 32 ∧ n = 32 - i ∧ Has a 33 [(1, .pointer (some ⟨gt, 0, none⟩)), (3, .string ⟨(hex (d.take i)).toArray⟩), (4, .int .i64 (i : Int))] ∧ Blk w gt 25 (u8s d) ∧ Ext w0 w) (32) ?_ ?_
  · skip
    exact ⟨0, by omega, rfl, H.sub ⟨rfl, rfl, rfl, trivial⟩, T1, E1⟩
  · skip
    clear H a T1 E1
    intro n a w hI
    clear hs1 w1
    obtain ⟨i, hi, rfl, H, T1, E1⟩ := hI
    rcases Nat.lt_or_ge i 32 with hlt | hge
    · skip
      obtain ⟨x, hx⟩ : ∃ x, x = d[i]?.getD 0 := ⟨_, rfl⟩
      have hx8 := x.toNat_lt
      have hdt : d.take (i + 1) = d.take i ++ [x] := by rw [List.take_succ_eq_append_getElem (by omega), hx]; simp [hd, hlt]
      have hdl : (d.take i).length = i := by rw [List.length_take]; omega
      have lx : w.cell? ⟨gt, i, none⟩ = some (.int .u8 (x.toNat : Int)) := by rw [T1.cell, hx]; exact u8s_get d i (by omega)
      refine wp_seq_k (fun K5 hK5 => ?_)
      refine wp_seq_k (fun K6 hK6 => ?_)
      refine e_region (fun R hR => ?_)
      refine e_op H rfl rfl (by decide) (x_move H rfl rfl) ?_
      clear H a; intro a H
      refine e_op H rfl rfl (by decide) (x_binI H rfl rfl rfl (b_lss (b := true) (dec_t (by omega)))) ?_
      clear H a; intro a H
      refine e_nil (hR.out _ _ ?_)
      clear hR R
      refine hK6 _ _ ?_
      clear hK6 K6
      refine c_true H rfl ?_
      refine wp_skip ?_
      refine hK5 _ _ ?_
      clear hK5 K5
      refine wp_seq_k (fun K7 hK7 => ?_)
      refine wp_block ?_
      refine wp_seq_k (fun K8 hK8 => ?_)
      refine h_start (by kernel_rfl) (fun R hR => ?_)
      have lx : w.drew.cell? ⟨gt, i, none⟩ = some (.int .u8 (x.toNat : Int)) := lx
      have T1 : Blk w.drew gt 25 (u8s d) := T1
      have E1 := E1.dr
      generalize w.drew = w at *
      refine h_take 0 H rfl rfl rfl (by decide) (by kernel_rfl) (by kernel_rfl) (by kernel_rfl) (fun w' hSw => (x_move H rfl rfl)) ?_
      clear H a; intro a H
      refine h_take 1 H rfl rfl rfl (by decide) (by kernel_rfl) (by kernel_rfl) (by kernel_rfl) (fun w' hSw => (x_indexAddr H rfl rfl rfl (i_arr0 (m := i) Tryd.underlying25 Tryd.sizeOf5 rfl (by omega)))) ?_
      clear H a; intro a H
      refine h_take 2 H rfl rfl rfl (by decide) (by kernel_rfl) (by kernel_rfl) (by kernel_rfl) (fun w' hSw => (x_load H rfl rfl (l_cell Tryd.isAgg5 (Ext.cell hSw lx)))) ?_
      clear H a; intro a H
      refine h_take 3 H rfl rfl rfl (by decide) (by kernel_rfl) (by kernel_rfl) (by kernel_rfl) (fun w' hSw => (x_binI H rfl rfl rfl (b_quo (z := ((x.toNat / 16 : Nat) : Int)) (by decide) (by rw [Int.tdiv_eq_ediv_of_nonneg (by omega), IntKind.wrap_u8]; omega)))) ?_
      clear H a; intro a H
      refine h_take 4 H rfl rfl rfl (by decide) (by kernel_rfl) (by kernel_rfl) (by kernel_rfl) (fun w' hSw => (x_move H rfl rfl)) ?_
      clear H a; intro a H
      refine h_take 5 H rfl rfl rfl (by decide) (by kernel_rfl) (by kernel_rfl) (by kernel_rfl) (fun w' hSw => (x_indexAddr H rfl rfl rfl (i_arr0 (m := i) Tryd.underlying25 Tryd.sizeOf5 rfl (by omega)))) ?_
      clear H a; intro a H
      refine h_take 6 H rfl rfl rfl (by decide) (by kernel_rfl) (by kernel_rfl) (by kernel_rfl) (fun w' hSw => (x_load H rfl rfl (l_cell Tryd.isAgg5 (Ext.cell hSw lx)))) ?_
      clear H a; intro a H
      refine h_take 7 H rfl rfl rfl (by decide) (by kernel_rfl) (by kernel_rfl) (by kernel_rfl) (fun w' hSw => (x_binI H rfl rfl rfl (b_rem (z := ((x.toNat % 16 : Nat) : Int)) (by decide) (by rw [Int.tmod_eq_emod_of_nonneg (by omega)]; omega)))) ?_
      clear H a; intro a H
      refine h_take 10 H rfl rfl rfl (by decide) (by kernel_rfl) (by kernel_rfl) (by kernel_rfl) (fun w' hSw => (x_move H rfl rfl)) ?_
      clear H a; intro a H
      refine h_op 8 H rfl (by kernel_rfl) (wanted_none rfl) rfl (by decide) (x_buildSlice H rfl rfl (bs2 _ _ _)) ((Ext.refl w).al _) ?_
      clear H a; intro a H
      have hn0 : (w.alloc (.cells #[.int .u8 ((x.toNat / 16 : Nat) : Int), .int .u8 ((x.toNat % 16 : Nat) : Int)] 5)).cell? ⟨w.heap.size, 0, none⟩ = some (.int .u8 ((x.toNat / 16 : Nat) : Int)) := by rw [World.cell?_alloc_at _ _ _ _ rfl]; rfl
      have hn1 : (w.alloc (.cells #[.int .u8 ((x.toNat / 16 : Nat) : Int), .int .u8 ((x.toNat % 16 : Nat) : Int)] 5)).cell? ⟨w.heap.size, 1, none⟩ = some (.int .u8 ((x.toNat % 16 : Nat) : Int)) := by rw [World.cell?_alloc_at _ _ _ _ rfl]; rfl
      have T2 := T1.alloc (.cells #[.int .u8 ((x.toNat / 16 : Nat) : Int), .int .u8 ((x.toNat % 16 : Nat) : Int)] 5)
      have E2 := E1.al (.cells #[.int .u8 ((x.toNat / 16 : Nat) : Int), .int .u8 ((x.toNat % 16 : Nat) : Int)] 5)
      obtain ⟨gn, hgn⟩ : ∃ gn, gn = w.heap.size := ⟨_, rfl⟩
      rw [← hgn] at H hn0 hn1
      generalize w.alloc (.cells #[.int .u8 ((x.toNat / 16 : Nat) : Int), .int .u8 ((x.toNat % 16 : Nat) : Int)] 5) = wi at *
      refine h_take 9 H rfl rfl rfl (by decide) (by kernel_rfl) (by kernel_rfl) (by kernel_rfl) (fun w' hSw => (x_builtin H rfl rfl (fun cs => len_sl Tryd.underlying22))) ?_
      clear H a; intro a H
      refine h_done (by kernel_rfl) (hR.out _ _ ?_)
      clear hR R
      refine hK8 _ _ ?_
      clear hK8 K8
      refine wp_block ?_
      refine wp_loop_ghost (fun n a w => ∃ j : Nat, j ≤ 2 ∧ n = 2 - j ∧ Has a 33 [(1, .pointer (some ⟨gt, 0, none⟩)), (3, .string ⟨(hex (d.take i) ++ [hexd (x.toNat / 16), hexd (x.toNat % 16)].take j).toArray⟩), (4, .int .i64 (i : Int)), (19, .slice (some ⟨gn, 0, none⟩) 2 2), (20, .int .i64 ((2 : Nat) : Int)), (21, .int .i64 (j : Int))] ∧ w = wi) (2) ?_ ?_
      · skip
        exact ⟨0, by omega, rfl, by simpa using H.sub (l' := [(1, .pointer (some ⟨gt, 0, none⟩)), (3, .string ⟨(hex (d.take i)).toArray⟩), (4, .int .i64 (i : Int)), (19, .slice (some ⟨gn, 0, none⟩) 2 2), (20, .int .i64 ((2 : Nat) : Int)), (21, .int .i64 0)]) ⟨rfl, rfl, rfl, rfl, rfl, rfl, trivial⟩, rfl⟩
      · skip
        clear H a
        intro n a w hI
        obtain ⟨j, hj, rfl, H, rfl⟩ := hI
        rcases (show j = 0 ∨ j = 1 ∨ j = 2 by omega) with rfl | rfl | rfl
        · skip
          skip
          refine wp_seq_k (fun K9 hK9 => ?_)
          refine e_region (fun R hR => ?_)
          refine e_op H rfl rfl (by decide) (x_binI H rfl rfl rfl (b_lss (b := true) (dec_t (by omega)))) ?_
          clear H a; intro a H
          refine e_nil (hR.out _ _ ?_)
          clear hR R
          refine hK9 _ _ ?_
          clear hK9 K9
          refine wp_seq_k (fun K10 hK10 => ?_)
          refine c_true H rfl ?_
          refine wp_skip ?_
          refine hK10 _ _ ?_
          clear hK10 K10
          refine wp_seq_k (fun K11 hK11 => ?_)
          refine wp_block ?_
          refine wp_seq_k (fun K12 hK12 => ?_)
          refine e_region (fun R hR => ?_)
          refine e_op H rfl rfl (by decide) (x_indexAddr H rfl rfl rfl (i_sl0 (m := 0) Tryd.underlying22 Tryd.sizeOf5 rfl (by omega))) ?_
          clear H a; intro a H
          refine e_op H rfl rfl (by decide) (x_load H rfl rfl (l_cell Tryd.isAgg5 (hn0))) ?_
          clear H a; intro a H
          refine e_op H rfl rfl (by decide) (x_assign H rfl rfl) ?_
          clear H a; intro a H
          refine e_nil (hR.out _ _ ?_)
          clear hR R
          refine hK12 _ _ ?_
          clear hK12 K12
          refine e_region (fun R hR => ?_)
          refine e_op H rfl rfl (by decide) (x_move H rfl rfl) ?_
          clear H a; intro a H
          refine e_op H rfl rfl (by decide) (x_move H rfl rfl) ?_
          clear H a; intro a H
          refine e_op H rfl rfl (by decide) (x_move H rfl rfl) ?_
          clear H a; intro a H
          refine e_op H rfl rfl (by decide) (x_binI H rfl rfl rfl (b_add (z := ((x.toNat / 16 + 1 : Nat) : Int)) (by rw [IntKind.wrap_u8]; omega))) ?_
          clear H a; intro a H
          refine e_op H rfl rfl (by decide) (x_slice (vx := .string HX) H rfl (by kernel_rfl) rfl rfl (sl_hx (m := x.toNat / 16) rfl rfl (by omega))) ?_
          clear H a; intro a H
          refine e_op H rfl rfl (by decide) (x_bin H rfl rfl rfl (by rw [eqGuard_at_string]; rfl) (cat_str (by rw [sz_arr, sz_one]; simp [hex_len]; omega))) ?_
          clear H a; intro a H
          rw [cat_one] at H
          refine e_op H rfl rfl (by decide) (x_assign H rfl rfl) ?_
          clear H a; intro a H
          refine e_nil (hR.out _ _ ?_)
          clear hR R
          refine hK11 _ _ ?_
          clear hK11 K11
          refine e_region (fun R hR => ?_)
          refine e_op H rfl rfl (by decide) (x_binI H rfl rfl rfl (b_add (z := ((0 + 1 : Nat) : Int)) (by rw [IntKind.wrap_i64]; omega))) ?_
          clear H a; intro a H
          refine e_op H rfl rfl (by decide) (x_move H rfl rfl) ?_
          clear H a; intro a H
          refine e_nil (hR.out _ _ ?_)
          clear hR R
          refine ⟨2 - (0 + 1), by omega, 0 + 1, by omega, rfl, ?_, rfl⟩
          exact H.sub ⟨rfl, congrArg (fun z : List UInt8 => some (Value.string ⟨z.toArray⟩)) (List.append_assoc (hex (d.take i)) (([hexd (x.toNat / 16), hexd (x.toNat % 16)] : List UInt8).take 0) [hexd (x.toNat / 16)]), rfl, rfl, rfl, rfl, trivial⟩
        · skip
          skip
          refine wp_seq_k (fun K13 hK13 => ?_)
          refine e_region (fun R hR => ?_)
          refine e_op H rfl rfl (by decide) (x_binI H rfl rfl rfl (b_lss (b := true) (dec_t (by omega)))) ?_
          clear H a; intro a H
          refine e_nil (hR.out _ _ ?_)
          clear hR R
          refine hK13 _ _ ?_
          clear hK13 K13
          refine wp_seq_k (fun K14 hK14 => ?_)
          refine c_true H rfl ?_
          refine wp_skip ?_
          refine hK14 _ _ ?_
          clear hK14 K14
          refine wp_seq_k (fun K15 hK15 => ?_)
          refine wp_block ?_
          refine wp_seq_k (fun K16 hK16 => ?_)
          refine e_region (fun R hR => ?_)
          refine e_op H rfl rfl (by decide) (x_indexAddr H rfl rfl rfl (i_sl0 (m := 1) Tryd.underlying22 Tryd.sizeOf5 rfl (by omega))) ?_
          clear H a; intro a H
          refine e_op H rfl rfl (by decide) (x_load H rfl rfl (l_cell Tryd.isAgg5 (hn1))) ?_
          clear H a; intro a H
          refine e_op H rfl rfl (by decide) (x_assign H rfl rfl) ?_
          clear H a; intro a H
          refine e_nil (hR.out _ _ ?_)
          clear hR R
          refine hK16 _ _ ?_
          clear hK16 K16
          refine e_region (fun R hR => ?_)
          refine e_op H rfl rfl (by decide) (x_move H rfl rfl) ?_
          clear H a; intro a H
          refine e_op H rfl rfl (by decide) (x_move H rfl rfl) ?_
          clear H a; intro a H
          refine e_op H rfl rfl (by decide) (x_move H rfl rfl) ?_
          clear H a; intro a H
          refine e_op H rfl rfl (by decide) (x_binI H rfl rfl rfl (b_add (z := ((x.toNat % 16 + 1 : Nat) : Int)) (by rw [IntKind.wrap_u8]; omega))) ?_
          clear H a; intro a H
          refine e_op H rfl rfl (by decide) (x_slice (vx := .string HX) H rfl (by kernel_rfl) rfl rfl (sl_hx (m := x.toNat % 16) rfl rfl (by omega))) ?_
          clear H a; intro a H
          refine e_op H rfl rfl (by decide) (x_bin H rfl rfl rfl (by rw [eqGuard_at_string]; rfl) (cat_str (by rw [sz_arr, sz_one]; simp [hex_len]; omega))) ?_
          clear H a; intro a H
          rw [cat_one] at H
          refine e_op H rfl rfl (by decide) (x_assign H rfl rfl) ?_
          clear H a; intro a H
          refine e_nil (hR.out _ _ ?_)
          clear hR R
          refine hK15 _ _ ?_
          clear hK15 K15
          refine e_region (fun R hR => ?_)
          refine e_op H rfl rfl (by decide) (x_binI H rfl rfl rfl (b_add (z := ((1 + 1 : Nat) : Int)) (by rw [IntKind.wrap_i64]; omega))) ?_
          clear H a; intro a H
          refine e_op H rfl rfl (by decide) (x_move H rfl rfl) ?_
          clear H a; intro a H
          refine e_nil (hR.out _ _ ?_)
          clear hR R
          refine ⟨2 - (1 + 1), by omega, 1 + 1, by omega, rfl, ?_, rfl⟩
          exact H.sub ⟨rfl, congrArg (fun z : List UInt8 => some (Value.string ⟨z.toArray⟩)) (List.append_assoc (hex (d.take i)) (([hexd (x.toNat / 16), hexd (x.toNat % 16)] : List UInt8).take 1) [hexd (x.toNat % 16)]), rfl, rfl, rfl, rfl, trivial⟩
        · skip
          skip
          refine wp_seq_k (fun K17 hK17 => ?_)
          refine e_region (fun R hR => ?_)
          refine e_op H rfl rfl (by decide) (x_binI H rfl rfl rfl (b_lss (b := false) (dec_f (by omega)))) ?_
          clear H a; intro a H
          refine e_nil (hR.out _ _ ?_)
          clear hR R
          refine hK17 _ _ ?_
          clear hK17 K17
          refine wp_seq_k (fun K18 hK18 => ?_)
          refine c_false H rfl ?_
          refine wp_exit ?_
          refine t_exit ?_
          refine t_exit ?_
          refine b_hit ?_
          clear hK18 K18
          refine hK7 _ _ ?_
          clear hK7 K7
          refine e_region (fun R hR => ?_)
          refine e_op H rfl rfl (by decide) (x_move H rfl rfl) ?_
          clear H a; intro a H
          refine e_op H rfl rfl (by decide) (x_binI H rfl rfl rfl (b_add (z := ((i + 1 : Nat) : Int)) (by rw [IntKind.wrap_i64]; omega))) ?_
          clear H a; intro a H
          refine e_op H rfl rfl (by decide) (x_assign H rfl rfl) ?_
          clear H a; intro a H
          refine e_nil (hR.out _ _ ?_)
          clear hR R
          refine ⟨32 - (i + 1), by omega, i + 1, by omega, rfl, ?_, T2, E2⟩
          rw [hdt, hex_app]
          exact H.sub ⟨rfl, rfl, rfl, trivial⟩
    · skip
      obtain rfl : i = 32 := by omega
      rw [List.take_of_length_le (by omega)] at H
      refine wp_seq_k (fun K19 hK19 => ?_)
      refine wp_seq_k (fun K20 hK20 => ?_)
      refine e_region (fun R hR => ?_)
      refine e_op H rfl rfl (by decide) (x_move H rfl rfl) ?_
      clear H a; intro a H
      refine e_op H rfl rfl (by decide) (x_binI H rfl rfl rfl (b_lss (b := false) (dec_f (by omega)))) ?_
      clear H a; intro a H
      refine e_nil (hR.out _ _ ?_)
      clear hR R
      refine hK20 _ _ ?_
      clear hK20 K20
      refine c_false H rfl ?_
      refine wp_exit ?_
      refine t_exit ?_
      refine t_exit ?_
      refine b_hit ?_
      clear hK19 K19
      refine hK3 _ _ ?_
      clear hK3 K3
      refine wp_seq_k (fun K21 hK21 => ?_)
      refine e_region (fun R hR => ?_)
      refine e_op H rfl rfl (by decide) (x_move H rfl rfl) ?_
      clear H a; intro a H
      refine e_op H rfl rfl (by decide) (x_assign H rfl rfl) ?_
      clear H a; intro a H
      refine e_nil (hR.out _ _ ?_)
      clear hR R
      refine hK21 _ _ ?_
      clear hK21 K21
      refine wp_ret ?_
      exact ret1 H rfl rfl ⟨rfl, E1⟩
theorem digestTexts_any (d : List UInt8) (hd : d.length = 32) (W : World) (K0 : Kc W) (h0 : 0 < W.heap.size) :
    Calls Tryd.prog 10 #[.agg (u8s d).toArray] W fun e w' => e = .returned (.bool true) ∧ Ext W w' := by
  refine calls_has (args := [.agg (u8s d).toArray]) Tryd.func10 rfl Tryd.ntmps10 (Nat.le_of_ble_eq_true rfl) (fun a H => ?_)
  simp only [argl, Nat.reduceAdd] at H
  refine wp_seq_k (fun K1 hK1 => ?_)
  refine e_region (fun R hR => ?_)
  refine e_op H rfl rfl (by decide) (x_box H rfl rfl bx_new) ?_
  clear H a; intro a H
  have T0 := Blk.new W 25 (u8s d)
  have EB := (Ext.refl W).al (.cells (u8s d).toArray 25)
  obtain ⟨gt, hgt⟩ : ∃ gt, gt = W.heap.size := ⟨_, rfl⟩
  rw [← hgt] at H T0
  have hsb := EB.sz
  generalize W.alloc (.cells (u8s d).toArray 25) = wb at *
  refine e_op H rfl rfl (by decide) (x_assign H rfl rfl) ?_
  clear H a; intro a H
  refine e_nil (hR.out _ _ ?_)
  clear hR R
  refine hK1 _ _ ?_
  clear hK1 K1
  refine wp_seq_k (fun K2 hK2 => ?_)
  refine wp_seq_k (fun K3 hK3 => ?_)
  refine e_region (fun R hR => ?_)
  refine e_callq H rfl rfl (by decide) rfl rfl (Tryd.call14 _) (awake_any wb (K0.ext EB) (by omega)) ?_
  clear H a
  rintro e w1 ⟨rfl, E01⟩
  refine ⟨_, rfl, fun a H => ?_⟩
  have E1 := EB.tr E01
  have T1 := T0.ext E01
  refine e_op H rfl rfl (by decide) (x_un H rfl rfl (u_not (c := false) (rfl))) ?_
  clear H a; intro a H
  refine e_nil (hR.out _ _ ?_)
  clear hR R
  refine hK3 _ _ ?_
  clear hK3 K3
  refine c_false H rfl ?_
  refine wp_skip ?_
  refine hK2 _ _ ?_
  clear hK2 K2
  refine wp_seq_k (fun K4 hK4 => ?_)
  refine e_region (fun R hR => ?_)
  refine e_op H rfl rfl (by decide) (x_load H rfl rfl (l_row T1 Tryd.underlying25 rfl (by rw [size_d d hd]; kernel_rfl))) ?_
  clear H a; intro a H
  refine e_callq H rfl rfl (by decide) rfl rfl (Tryd.call30 _) (text_any d hd w1) ?_
  clear H a
  rintro e w2 ⟨rfl, E12⟩
  refine ⟨_, rfl, fun a H => ?_⟩
  have E2 := E1.tr E12
  have T2 := T1.ext E12
  refine e_op H rfl rfl (by decide) (x_assign H rfl rfl) ?_
  clear H a; intro a H
  refine e_nil (hR.out _ _ ?_)
  clear hR R
  refine hK4 _ _ ?_
  clear hK4 K4
  refine wp_seq_k (fun K5 hK5 => ?_)
  refine e_region (fun R hR => ?_)
  refine e_op H rfl rfl (by decide) (x_move H rfl rfl) ?_
  clear H a; intro a H
  refine e_callq H rfl rfl (by decide) rfl rfl (Tryd.call31 _) (parse_any ⟨(hex d).toArray⟩ (hex d) (by simp) w2) ?_
  clear H a
  rintro e w3 ⟨hp, E23⟩
  unfold PPost at hp
  rw [parsed_hex d hd] at hp
  subst hp
  refine ⟨_, rfl, fun a H => ?_⟩
  have E3 := E2.tr E23
  have T3 := T2.ext E23
  refine e_op H rfl rfl (by decide) (x_move H rfl rfl) ?_
  clear H a; intro a H
  refine e_op H rfl rfl (by decide) (x_extract H rfl rfl rfl) ?_
  clear H a; intro a H
  refine e_op H rfl rfl (by decide) (x_extract H rfl rfl rfl) ?_
  clear H a; intro a H
  refine e_op H rfl rfl (by decide) (x_alloc H rfl (al_new (z26 _))) ?_
  clear H a; intro a H
  have P1 := Blk.new w3 26 (u8s (List.replicate 32 0))
  have E4 := E3.al (.cells (u8s (List.replicate 32 0)).toArray 26)
  have T4 := T3.alloc (.cells (u8s (List.replicate 32 0)).toArray 26)
  obtain ⟨gp, hgp⟩ : ∃ gp, gp = w3.heap.size := ⟨_, rfl⟩
  rw [← hgp] at H P1
  have htp : gt < gp := by have := T3.lt; omega
  have hs3 := E3.sz
  generalize w3.alloc (.cells (u8s (List.replicate 32 0)).toArray 26) = w4 at *
  refine e_st H rfl rfl (x_store H rfl rfl rfl (st_row P1 (by show _ = some (u8s d).toArray.size; rw [size_d d hd]; kernel_rfl) (by show _ = (u8s d).toArray.size; rw [size_d d hd]; rfl) (one_u8 _))) ?_
  have P2 := P1.row (u8s d)
  have T5 := T4.grown (grown_setRow w4 gp (u8s d).toArray) (by simp; omega)
  have E5 := E4.row_ (g := gp) (by omega) (u8s d).toArray
  have P2 : Blk (w4.setRow gp (u8s d).toArray) gp 26 (u8s d) := P2
  simp only [Option.getD_some]
  generalize w4.setRow gp (u8s d).toArray = w5 at *
  refine e_op H rfl rfl (by decide) (x_assign H rfl rfl) ?_
  clear H a; intro a H
  refine e_nil (hR.out _ _ ?_)
  clear hR R
  refine hK5 _ _ ?_
  clear hK5 K5
  refine wp_seq_k (fun K6 hK6 => ?_)
  refine e_region (fun R hR => ?_)
  refine e_op H rfl rfl (by decide) (x_move H rfl rfl) ?_
  clear H a; intro a H
  refine e_op H rfl rfl (by decide) (x_load H rfl rfl (l_row T5 Tryd.underlying25 rfl (by rw [size_d d hd]; kernel_rfl))) ?_
  clear H a; intro a H
  refine e_callq H rfl rfl (by decide) rfl rfl (Tryd.call32 _) (reftext_any d hd w5) ?_
  clear H a
  rintro e w6 ⟨rfl, E56⟩
  refine ⟨_, rfl, fun a H => ?_⟩
  have E6 := E5.tr E56
  have T6 := T5.ext E56
  have P6 := P2.ext E56
  refine e_op H rfl rfl (by decide) (x_bin H rfl rfl rfl eqg9 (eql9 rfl)) ?_
  clear H a; intro a H
  refine e_op H rfl rfl (by decide) (x_move H rfl rfl) ?_
  clear H a; intro a H
  refine e_opg H (wanted_true H rfl rfl rfl rfl) rfl (by decide) (x_move H rfl rfl) ?_
  clear H a; intro a H
  refine e_opg H (wanted_true H rfl rfl rfl rfl) rfl (by decide) (x_binI H rfl rfl rfl (b_eql (b := true) (rfl))) ?_
  clear H a; intro a H
  refine e_op H rfl rfl (by decide) (x_pickT H rfl rfl rfl) ?_
  clear H a; intro a H
  refine e_op H rfl rfl (by decide) (x_move H rfl rfl) ?_
  clear H a; intro a H
  refine e_opg H (wanted_true H rfl rfl rfl rfl) rfl (by decide) (x_load H rfl rfl (l_row P6 Tryd.underlying26 rfl (by rw [size_d d hd]; kernel_rfl))) ?_
  clear H a; intro a H
  refine e_opg H (wanted_true H rfl rfl rfl rfl) rfl (by decide) (x_load H rfl rfl (l_row T6 Tryd.underlying25 rfl (by rw [size_d d hd]; kernel_rfl))) ?_
  clear H a; intro a H
  refine e_opg H (wanted_true H rfl rfl rfl rfl) rfl (by decide) (x_bin H rfl rfl rfl eqg26 (eql26 (c := true) hd hd (by simp))) ?_
  clear H a; intro a H
  refine e_op H rfl rfl (by decide) (x_pickT H rfl rfl rfl) ?_
  clear H a; intro a H
  refine e_op H rfl rfl (by decide) (x_assign H rfl rfl) ?_
  clear H a; intro a H
  refine e_nil (hR.out _ _ ?_)
  clear hR R
  refine hK6 _ _ ?_
  clear hK6 K6
  refine wp_ret ?_
  exact ret1 H rfl rfl ⟨rfl, E6⟩
theorem digestParses_any (s : ByteArray) (W : World) (K0 : Kc W) (h0 : 0 < W.heap.size) :
    Calls Tryd.prog 11 #[.string s] W fun e w' => e = .returned (.bool true) ∧ Ext W w' := by
  obtain ⟨l, hl⟩ : ∃ l, l = s.data.toList := ⟨_, rfl⟩
  by_cases hg : good l
  · skip
    refine calls_has (args := [.string s]) Tryd.func11 rfl Tryd.ntmps11 (Nat.le_of_ble_eq_true rfl) (fun a H => ?_)
    simp only [argl, Nat.reduceAdd] at H
    refine wp_seq_k (fun K1 hK1 => ?_)
    refine e_region (fun R hR => ?_)
    refine e_op H rfl rfl (by decide) (x_assign H rfl rfl) ?_
    clear H a; intro a H
    refine e_nil (hR.out _ _ ?_)
    clear hR R
    refine hK1 _ _ ?_
    clear hK1 K1
    refine wp_seq_k (fun K2 hK2 => ?_)
    refine wp_seq_k (fun K3 hK3 => ?_)
    refine e_region (fun R hR => ?_)
    refine e_callq H rfl rfl (by decide) rfl rfl (Tryd.call14 _) (awake_any W K0 h0) ?_
    clear H a
    rintro e w1 ⟨rfl, E1⟩
    refine ⟨_, rfl, fun a H => ?_⟩
    have hs1 := E1.sz
    refine e_op H rfl rfl (by decide) (x_un H rfl rfl (u_not (c := false) (rfl))) ?_
    clear H a; intro a H
    refine e_nil (hR.out _ _ ?_)
    clear hR R
    refine hK3 _ _ ?_
    clear hK3 K3
    refine c_false H rfl ?_
    refine wp_skip ?_
    refine hK2 _ _ ?_
    clear hK2 K2
    refine wp_seq_k (fun K4 hK4 => ?_)
    refine e_region (fun R hR => ?_)
    refine e_op H rfl rfl (by decide) (x_move H rfl rfl) ?_
    clear H a; intro a H
    refine e_callq H rfl rfl (by decide) rfl rfl (Tryd.call31 _) (parse_any s l hl w1) ?_
    clear H a
    rintro e w2 ⟨hp, E12⟩
    unfold PPost at hp
    rw [parsed_yes hg] at hp
    subst hp
    refine ⟨_, rfl, fun a H => ?_⟩
    have E2 := E1.tr E12
    refine e_op H rfl rfl (by decide) (x_move H rfl rfl) ?_
    clear H a; intro a H
    refine e_op H rfl rfl (by decide) (x_extract H rfl rfl rfl) ?_
    clear H a; intro a H
    refine e_op H rfl rfl (by decide) (x_extract H rfl rfl rfl) ?_
    clear H a; intro a H
    refine e_op H rfl rfl (by decide) (x_alloc H rfl (al_new (z26 _))) ?_
    clear H a; intro a H
    have P1 := Blk.new w2 26 (u8s (List.replicate 32 0))
    have E3 := E2.al (.cells (u8s (List.replicate 32 0)).toArray 26)
    obtain ⟨gp, hgp⟩ : ∃ gp, gp = w2.heap.size := ⟨_, rfl⟩
    rw [← hgp] at H P1
    have hs2 := E2.sz
    generalize w2.alloc (.cells (u8s (List.replicate 32 0)).toArray 26) = w3 at *
    refine e_st H rfl rfl (x_store H rfl rfl rfl (st_row P1 (by show _ = some (u8s (unhex l)).toArray.size; rw [size_d _ (show (unhex l).length = 32 from unhexP_len l 32)]; kernel_rfl) (by show _ = (u8s (unhex l)).toArray.size; rw [size_d _ (show (unhex l).length = 32 from unhexP_len l 32)] <;> rfl) (one_u8 _))) ?_
    have P2 : Blk (w3.setRow gp (u8s (unhex l)).toArray) gp 26 (u8s (unhex l)) := P1.row (u8s (unhex l))
    have E4 : Ext W (w3.setRow gp (u8s (unhex l)).toArray) := E3.row_ (g := gp) (by omega) (u8s (unhex l)).toArray
    simp only [Option.getD_some, Option.getD_none]
    generalize w3.setRow gp (u8s (unhex l)).toArray = w4 at *
    refine e_op H rfl rfl (by decide) (x_assign H rfl rfl) ?_
    clear H a; intro a H
    refine e_nil (hR.out _ _ ?_)
    clear hR R
    refine hK4 _ _ ?_
    clear hK4 K4
    refine wp_seq_k (fun K5 hK5 => ?_)
    refine e_region (fun R hR => ?_)
    refine e_op H rfl rfl (by decide) (x_move H rfl rfl) ?_
    clear H a; intro a H
    refine e_callq H rfl rfl (by decide) rfl rfl (Tryd.call33 _) (refparse_any s l hl w4) ?_
    clear H a
    rintro e w5 ⟨hp, E45⟩
    unfold PPost at hp
    rw [parsed_yes hg] at hp
    subst hp
    refine ⟨_, rfl, fun a H => ?_⟩
    have E5 := E4.tr E45
    have P5 := P2.ext E45
    refine e_op H rfl rfl (by decide) (x_move H rfl rfl) ?_
    clear H a; intro a H
    refine e_op H rfl rfl (by decide) (x_extract H rfl rfl rfl) ?_
    clear H a; intro a H
    refine e_op H rfl rfl (by decide) (x_extract H rfl rfl rfl) ?_
    clear H a; intro a H
    refine e_op H rfl rfl (by decide) (x_alloc H rfl (al_new (z25 _))) ?_
    clear H a; intro a H
    have Q1 := Blk.new w5 25 (u8s (List.replicate 32 0))
    have E6 := E5.al (.cells (u8s (List.replicate 32 0)).toArray 25)
    have P6 := P5.alloc (.cells (u8s (List.replicate 32 0)).toArray 25)
    obtain ⟨gq, hgq⟩ : ∃ gq, gq = w5.heap.size := ⟨_, rfl⟩
    rw [← hgq] at H Q1
    have hpq : gp < gq := by have := P5.lt; omega
    have hs5 := E5.sz
    generalize w5.alloc (.cells (u8s (List.replicate 32 0)).toArray 25) = w6 at *
    refine e_st H rfl rfl (x_store H rfl rfl rfl (st_row Q1 (by show _ = some (u8s (unhex l)).toArray.size; rw [size_d _ (show (unhex l).length = 32 from unhexP_len l 32)]; kernel_rfl) (by show _ = (u8s (unhex l)).toArray.size; rw [size_d _ (show (unhex l).length = 32 from unhexP_len l 32)] <;> rfl) (one_u8 _))) ?_
    have Q2 : Blk (w6.setRow gq (u8s (unhex l)).toArray) gq 25 (u8s (unhex l)) := Q1.row (u8s (unhex l))
    have E7 : Ext W (w6.setRow gq (u8s (unhex l)).toArray) := E6.row_ (g := gq) (by omega) (u8s (unhex l)).toArray
    have P7 : Blk (w6.setRow gq (u8s (unhex l)).toArray) gp 26 (u8s (unhex l)) := P6.grown (grown_setRow w6 gq _) (by simp; omega)
    simp only [Option.getD_some, Option.getD_none]
    generalize w6.setRow gq (u8s (unhex l)).toArray = w7 at *
    refine e_op H rfl rfl (by decide) (x_assign H rfl rfl) ?_
    clear H a; intro a H
    refine e_nil (hR.out _ _ ?_)
    clear hR R
    refine hK5 _ _ ?_
    clear hK5 K5
    refine wp_seq_k (fun K6 hK6 => ?_)
    refine e_region (fun R hR => ?_)
    refine e_op H rfl rfl (by decide) (x_move H rfl rfl) ?_
    clear H a; intro a H
    refine e_op H rfl rfl (by decide) (x_move H rfl rfl) ?_
    clear H a; intro a H
    refine e_op H rfl rfl (by decide) (x_binI H rfl rfl rfl (b_eql (b := true) (rfl))) ?_
    clear H a; intro a H
    refine e_op H rfl rfl (by decide) (x_move H rfl rfl) ?_
    clear H a; intro a H
    refine e_opg H (wanted_true H rfl rfl rfl rfl) rfl (by decide) (x_load H rfl rfl (l_row P7 Tryd.underlying26 rfl (by rw [size_d _ (show (unhex l).length = 32 from unhexP_len l 32)]; kernel_rfl))) ?_
    clear H a; intro a H
    refine e_opg H (wanted_true H rfl rfl rfl rfl) rfl (by decide) (x_load H rfl rfl (l_row Q2 Tryd.underlying25 rfl (by rw [size_d _ (show (unhex l).length = 32 from unhexP_len l 32)]; kernel_rfl))) ?_
    clear H a; intro a H
    refine e_opg H (wanted_true H rfl rfl rfl rfl) rfl (by decide) (x_bin H rfl rfl rfl eqg26 (eql26 (c := true) (show (unhex l).length = 32 from unhexP_len l 32) (show (unhex l).length = 32 from unhexP_len l 32) (by simp))) ?_
    clear H a; intro a H
    refine e_op H rfl rfl (by decide) (x_pickT H rfl rfl rfl) ?_
    clear H a; intro a H
    refine e_op H rfl rfl (by decide) (x_move H rfl rfl) ?_
    clear H a; intro a H
    refine e_opg H (wanted_true H rfl rfl rfl rfl) rfl (by decide) (x_move H rfl rfl) ?_
    clear H a; intro a H
    refine e_opg H (wanted_true H rfl rfl rfl rfl) rfl (by decide) (x_binI H rfl rfl rfl (b_neq (b := false) (rfl))) ?_
    clear H a; intro a H
    refine e_opg H (wanted_true H rfl rfl rfl rfl) rfl (by decide) (x_move H rfl rfl) ?_
    clear H a; intro a H
    refine e_opg H (wanted_true H rfl rfl rfl rfl) rfl (by decide) (x_load H rfl rfl (l_row P7 Tryd.underlying26 rfl (by rw [size_d _ (show (unhex l).length = 32 from unhexP_len l 32)]; kernel_rfl))) ?_
    clear H a; intro a H
    refine e_callqg H (wanted_true H rfl rfl rfl rfl) rfl (by decide) rfl rfl (Tryd.call30 _) (text_any (unhex l) (unhexP_len l 32) w7) ?_
    clear H a
    rintro e w8 ⟨rfl, E78⟩
    refine ⟨_, rfl, fun a H => ?_⟩
    have E8 := E7.tr E78
    rw [hex_unhex l hg] at H
    refine e_opg H (wanted_true H rfl rfl rfl rfl) rfl (by decide) (x_move H rfl rfl) ?_
    clear H a; intro a H
    refine e_opg H (wanted_true H rfl rfl rfl rfl) rfl (by decide) (x_bin H rfl rfl rfl eqg9 (eql9 (by rw [hl, Array.toArray_toList]))) ?_
    clear H a; intro a H
    refine e_opg H (wanted_true H rfl rfl rfl rfl) rfl (by decide) (x_pickF H rfl rfl rfl) ?_
    clear H a; intro a H
    refine e_op H rfl rfl (by decide) (x_pickT H rfl rfl rfl) ?_
    clear H a; intro a H
    refine e_op H rfl rfl (by decide) (x_assign H rfl rfl) ?_
    clear H a; intro a H
    refine e_nil (hR.out _ _ ?_)
    clear hR R
    refine hK6 _ _ ?_
    clear hK6 K6
    refine wp_ret ?_
    exact ret1 H rfl rfl ⟨rfl, E8⟩
  · skip
    refine calls_has (args := [.string s]) Tryd.func11 rfl Tryd.ntmps11 (Nat.le_of_ble_eq_true rfl) (fun a H => ?_)
    simp only [argl, Nat.reduceAdd] at H
    refine wp_seq_k (fun K1 hK1 => ?_)
    refine e_region (fun R hR => ?_)
    refine e_op H rfl rfl (by decide) (x_assign H rfl rfl) ?_
    clear H a; intro a H
    refine e_nil (hR.out _ _ ?_)
    clear hR R
    refine hK1 _ _ ?_
    clear hK1 K1
    refine wp_seq_k (fun K2 hK2 => ?_)
    refine wp_seq_k (fun K3 hK3 => ?_)
    refine e_region (fun R hR => ?_)
    refine e_callq H rfl rfl (by decide) rfl rfl (Tryd.call14 _) (awake_any W K0 h0) ?_
    clear H a
    rintro e w1 ⟨rfl, E1⟩
    refine ⟨_, rfl, fun a H => ?_⟩
    have hs1 := E1.sz
    refine e_op H rfl rfl (by decide) (x_un H rfl rfl (u_not (c := false) (rfl))) ?_
    clear H a; intro a H
    refine e_nil (hR.out _ _ ?_)
    clear hR R
    refine hK3 _ _ ?_
    clear hK3 K3
    refine c_false H rfl ?_
    refine wp_skip ?_
    refine hK2 _ _ ?_
    clear hK2 K2
    refine wp_seq_k (fun K4 hK4 => ?_)
    refine e_region (fun R hR => ?_)
    refine e_op H rfl rfl (by decide) (x_move H rfl rfl) ?_
    clear H a; intro a H
    refine e_callq H rfl rfl (by decide) rfl rfl (Tryd.call31 _) (parse_any s l hl w1) ?_
    clear H a
    rintro e w2 ⟨hp, E12⟩
    unfold PPost at hp
    rw [parsed_no hg] at hp
    subst hp
    refine ⟨_, rfl, fun a H => ?_⟩
    have E2 := E1.tr E12
    refine e_op H rfl rfl (by decide) (x_move H rfl rfl) ?_
    clear H a; intro a H
    refine e_op H rfl rfl (by decide) (x_extract H rfl rfl rfl) ?_
    clear H a; intro a H
    refine e_op H rfl rfl (by decide) (x_extract H rfl rfl rfl) ?_
    clear H a; intro a H
    refine e_op H rfl rfl (by decide) (x_alloc H rfl (al_new (z26 _))) ?_
    clear H a; intro a H
    have P1 := Blk.new w2 26 (u8s (List.replicate 32 0))
    have E3 := E2.al (.cells (u8s (List.replicate 32 0)).toArray 26)
    obtain ⟨gp, hgp⟩ : ∃ gp, gp = w2.heap.size := ⟨_, rfl⟩
    rw [← hgp] at H P1
    have hs2 := E2.sz
    generalize w2.alloc (.cells (u8s (List.replicate 32 0)).toArray 26) = w3 at *
    refine e_st H rfl rfl (x_store H rfl rfl rfl (st_row P1 (by show _ = some (u8s (List.replicate 32 (0 : UInt8))).toArray.size; rw [size_d _ (show (List.replicate 32 (0 : UInt8)).length = 32 by simp)]; kernel_rfl) (by show _ = (u8s (List.replicate 32 (0 : UInt8))).toArray.size; rw [size_d _ (show (List.replicate 32 (0 : UInt8)).length = 32 by simp)] <;> rfl) (one_u8 _))) ?_
    have P2 : Blk (w3.setRow gp (u8s (List.replicate 32 (0 : UInt8))).toArray) gp 26 (u8s (List.replicate 32 (0 : UInt8))) := P1.row (u8s (List.replicate 32 (0 : UInt8)))
    have E4 : Ext W (w3.setRow gp (u8s (List.replicate 32 (0 : UInt8))).toArray) := E3.row_ (g := gp) (by omega) (u8s (List.replicate 32 (0 : UInt8))).toArray
    simp only [Option.getD_some, Option.getD_none]
    generalize w3.setRow gp (u8s (List.replicate 32 (0 : UInt8))).toArray = w4 at *
    refine e_op H rfl rfl (by decide) (x_assign H rfl rfl) ?_
    clear H a; intro a H
    refine e_nil (hR.out _ _ ?_)
    clear hR R
    refine hK4 _ _ ?_
    clear hK4 K4
    refine wp_seq_k (fun K5 hK5 => ?_)
    refine e_region (fun R hR => ?_)
    refine e_op H rfl rfl (by decide) (x_move H rfl rfl) ?_
    clear H a; intro a H
    refine e_callq H rfl rfl (by decide) rfl rfl (Tryd.call33 _) (refparse_any s l hl w4) ?_
    clear H a
    rintro e w5 ⟨hp, E45⟩
    unfold PPost at hp
    rw [parsed_no hg] at hp
    subst hp
    refine ⟨_, rfl, fun a H => ?_⟩
    have E5 := E4.tr E45
    have P5 := P2.ext E45
    refine e_op H rfl rfl (by decide) (x_move H rfl rfl) ?_
    clear H a; intro a H
    refine e_op H rfl rfl (by decide) (x_extract H rfl rfl rfl) ?_
    clear H a; intro a H
    refine e_op H rfl rfl (by decide) (x_extract H rfl rfl rfl) ?_
    clear H a; intro a H
    refine e_op H rfl rfl (by decide) (x_alloc H rfl (al_new (z25 _))) ?_
    clear H a; intro a H
    have Q1 := Blk.new w5 25 (u8s (List.replicate 32 0))
    have E6 := E5.al (.cells (u8s (List.replicate 32 0)).toArray 25)
    have P6 := P5.alloc (.cells (u8s (List.replicate 32 0)).toArray 25)
    obtain ⟨gq, hgq⟩ : ∃ gq, gq = w5.heap.size := ⟨_, rfl⟩
    rw [← hgq] at H Q1
    have hpq : gp < gq := by have := P5.lt; omega
    have hs5 := E5.sz
    generalize w5.alloc (.cells (u8s (List.replicate 32 0)).toArray 25) = w6 at *
    refine e_st H rfl rfl (x_store H rfl rfl rfl (st_row Q1 (by show _ = some (u8s (List.replicate 32 (0 : UInt8))).toArray.size; rw [size_d _ (show (List.replicate 32 (0 : UInt8)).length = 32 by simp)]; kernel_rfl) (by show _ = (u8s (List.replicate 32 (0 : UInt8))).toArray.size; rw [size_d _ (show (List.replicate 32 (0 : UInt8)).length = 32 by simp)] <;> rfl) (one_u8 _))) ?_
    have Q2 : Blk (w6.setRow gq (u8s (List.replicate 32 (0 : UInt8))).toArray) gq 25 (u8s (List.replicate 32 (0 : UInt8))) := Q1.row (u8s (List.replicate 32 (0 : UInt8)))
    have E7 : Ext W (w6.setRow gq (u8s (List.replicate 32 (0 : UInt8))).toArray) := E6.row_ (g := gq) (by omega) (u8s (List.replicate 32 (0 : UInt8))).toArray
    have P7 : Blk (w6.setRow gq (u8s (List.replicate 32 (0 : UInt8))).toArray) gp 26 (u8s (List.replicate 32 (0 : UInt8))) := P6.grown (grown_setRow w6 gq _) (by simp; omega)
    simp only [Option.getD_some, Option.getD_none]
    generalize w6.setRow gq (u8s (List.replicate 32 (0 : UInt8))).toArray = w7 at *
    refine e_op H rfl rfl (by decide) (x_assign H rfl rfl) ?_
    clear H a; intro a H
    refine e_nil (hR.out _ _ ?_)
    clear hR R
    refine hK5 _ _ ?_
    clear hK5 K5
    refine wp_seq_k (fun K6 hK6 => ?_)
    refine e_region (fun R hR => ?_)
    refine e_op H rfl rfl (by decide) (x_move H rfl rfl) ?_
    clear H a; intro a H
    refine e_op H rfl rfl (by decide) (x_move H rfl rfl) ?_
    clear H a; intro a H
    refine e_op H rfl rfl (by decide) (x_binI H rfl rfl rfl (b_eql (b := true) (rfl))) ?_
    clear H a; intro a H
    refine e_op H rfl rfl (by decide) (x_move H rfl rfl) ?_
    clear H a; intro a H
    refine e_opg H (wanted_true H rfl rfl rfl rfl) rfl (by decide) (x_load H rfl rfl (l_row P7 Tryd.underlying26 rfl (by rw [size_d _ (show (List.replicate 32 (0 : UInt8)).length = 32 by simp)]; kernel_rfl))) ?_
    clear H a; intro a H
    refine e_opg H (wanted_true H rfl rfl rfl rfl) rfl (by decide) (x_load H rfl rfl (l_row Q2 Tryd.underlying25 rfl (by rw [size_d _ (show (List.replicate 32 (0 : UInt8)).length = 32 by simp)]; kernel_rfl))) ?_
    clear H a; intro a H
    refine e_opg H (wanted_true H rfl rfl rfl rfl) rfl (by decide) (x_bin H rfl rfl rfl eqg26 (eql26 (c := true) (show (List.replicate 32 (0 : UInt8)).length = 32 by simp) (show (List.replicate 32 (0 : UInt8)).length = 32 by simp) (by simp))) ?_
    clear H a; intro a H
    refine e_op H rfl rfl (by decide) (x_pickT H rfl rfl rfl) ?_
    clear H a; intro a H
    refine e_op H rfl rfl (by decide) (x_move H rfl rfl) ?_
    clear H a; intro a H
    refine e_opg H (wanted_true H rfl rfl rfl rfl) rfl (by decide) (x_move H rfl rfl) ?_
    clear H a; intro a H
    refine e_opg H (wanted_true H rfl rfl rfl rfl) rfl (by decide) (x_binI H rfl rfl rfl (b_neq (b := true) (rfl))) ?_
    clear H a; intro a H
    refine e_opg H (wanted_true H rfl rfl rfl rfl) rfl (by decide) (x_move H rfl rfl) ?_
    clear H a; intro a H
    refine e_skip H (wanted_false H rfl rfl rfl rfl) rfl (by decide) ?_
    clear H a; intro a H
    refine e_skip H (wanted_false H rfl rfl rfl rfl) rfl (by decide) ?_
    clear H a; intro a H
    refine e_skip H (wanted_false H rfl rfl rfl rfl) rfl (by decide) ?_
    clear H a; intro a H
    refine e_skip H (wanted_false H rfl rfl rfl rfl) rfl (by decide) ?_
    clear H a; intro a H
    refine e_opg H (wanted_true H rfl rfl rfl rfl) rfl (by decide) (x_pickT H rfl rfl rfl) ?_
    clear H a; intro a H
    refine e_op H rfl rfl (by decide) (x_pickT H rfl rfl rfl) ?_
    clear H a; intro a H
    refine e_op H rfl rfl (by decide) (x_assign H rfl rfl) ?_
    clear H a; intro a H
    refine e_nil (hR.out _ _ ?_)
    clear hR R
    have E8 := E7
    refine hK6 _ _ ?_
    clear hK6 K6
    refine wp_ret ?_
    exact ret1 H rfl rfl ⟨rfl, E8⟩
end Go.Proofs.YtknllmcpogoeoaaDoor
