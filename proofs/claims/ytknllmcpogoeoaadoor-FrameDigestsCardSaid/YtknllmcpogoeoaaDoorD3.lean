/- Write, walked. -/
import Derived.Test.YtknllmcpogoeoaaDoorHs2
import Derived.Test.YtknllmcpogoeoaaDoorD2
namespace Go.Proofs.YtknllmcpogoeoaaDoor
open Go.RowKit
set_option linter.unusedVariables false
set_option linter.unusedSimpArgs false
set_option maxRecDepth 100000
set_option maxHeartbeats 4000000 in
theorem write_any (g : Nat) (l p : List UInt8) (ad : Option Addr) (m c : Nat) (w0 : World) (h : HashIs w0 g l) (hp : Sv w0 ad m c p g) (K0 : Kc w0) (hg : g ≠ 0) (hb : l.length + m < 4611686018427387904) :
    Calls Tryd.prog 19 #[.pointer (some ⟨g, 0, none⟩), .slice ad m c] w0 fun e w' => e = .returned (.tuple #[]) ∧ HashIs w' g (l ++ p) ∧ Frm [g] w0 w' := by
  refine calls_has (args := [.pointer (some ⟨g, 0, none⟩), .slice ad m c]) Tryd.func19 rfl Tryd.ntmps19 (Nat.le_of_ble_eq_true rfl) (fun a H => ?_)
  simp only [argl, Nat.reduceAdd] at H
  refine wp_seq_k (fun K1 hK1 => ?_)
  refine wp_seq_k (fun K2 hK2 => ?_)
  refine e_region (fun R hR => ?_)
  refine e_op H rfl rfl (by decide) (x_move H rfl rfl) ?_
  clear H a; intro a H
  refine e_op H rfl rfl (by decide) (x_bin H rfl rfl rfl (by rw [eqGuard_at_pointer]; rfl) (b_pnil Tryd.underlying30 rfl)) ?_
  clear H a; intro a H
  refine e_nil (hR.out _ _ ?_)
  clear hR R
  refine hK2 _ _ ?_
  clear hK2 K2
  refine c_false H rfl ?_
  refine wp_skip ?_
  refine hK1 _ _ ?_
  clear hK1 K1
  refine wp_block ?_
  refine wp_loop_ghost (fun n a w => ∃ (k : Nat) (ad2 : Option Addr) (c2 : Nat), k ≤ m ∧ n = m - k ∧ Has a 42 [(0, .pointer (some ⟨g, 0, none⟩)), (1, .slice ad2 (m - k) c2)] ∧ Sv w ad2 (m - k) c2 (p.drop k) g ∧ HashIs w g (l ++ p.take k) ∧ Frm [g] w0 w) (m) ?_ ?_
  · skip
    exact ⟨0, ad, c, by omega, rfl, H.sub ⟨rfl, rfl, trivial⟩, hp, by simpa using h, Frm.refl _ _⟩
  · skip
    clear H a
    intro n a w hI
    obtain ⟨k, ad2, c2, hk, rfl, H, hp2, h2, F0⟩ := hI
    have hpl := hp.bs.leng
    obtain ⟨L, hL⟩ : ∃ L, L = l ++ p.take k := ⟨_, rfl⟩
    rw [← hL] at h2
    have hLn : L.length = l.length + k := by rw [hL, List.length_append, List.length_take]; omega
    obtain ⟨bs, HS, hbs⟩ := h2
    obtain ⟨at_, hat⟩ : ∃ x, L.length % 64 = x := ⟨_, rfl⟩
    obtain ⟨kk, hkk⟩ : ∃ kk, kk = min (m - k) (64 - at_) := ⟨_, rfl⟩
    obtain ⟨r, hr⟩ : ∃ r, r = (p.drop k).take kk := ⟨_, rfl⟩
    have hrl : r.length = kk := by rw [hr, List.length_take, List.length_drop]; omega
    have hc2 := hp2.cap
    rcases Nat.lt_or_ge k m with hlt | hge
    by_cases hf : at_ + kk = 64
    · skip
      skip
      refine wp_seq_k (fun K3 hK3 => ?_)
      refine wp_seq_k (fun K4 hK4 => ?_)
      refine e_region (fun R hR => ?_)
      refine e_op H rfl rfl (by decide) (x_move H rfl rfl) ?_
      clear H a; intro a H
      refine e_op H rfl rfl (by decide) (x_builtin H rfl rfl (fun cs => len_sl Tryd.underlying22)) ?_
      clear H a; intro a H
      refine e_op H rfl rfl (by decide) (x_binI H rfl rfl rfl (b_gtr (b := true) (dec_t (by omega)))) ?_
      clear H a; intro a H
      refine e_nil (hR.out _ _ ?_)
      clear hR R
      refine hK4 _ _ ?_
      clear hK4 K4
      refine c_true H rfl ?_
      refine wp_skip ?_
      refine hK3 _ _ ?_
      clear hK3 K3
      refine wp_block ?_
      refine wp_seq_k (fun K5 hK5 => ?_)
      refine e_region (fun R hR => ?_)
      refine e_op H rfl rfl (by decide) (x_move H rfl rfl) ?_
      clear H a; intro a H
      refine e_op H rfl rfl (by decide) (x_nilCheck H rfl rfl) ?_
      clear H a; intro a H
      refine e_op H rfl rfl (by decide) (x_fieldAddr H rfl rfl (fa74_2 _ _)) ?_
      clear H a; intro a H
      refine e_op H rfl rfl (by decide) (x_load H rfl rfl (l_cell Tryd.isAgg39 (HS.tot))) ?_
      clear H a; intro a H
      refine e_op H rfl rfl (by decide) (x_binI H rfl rfl rfl (b_rem (z := ((L.length % 64 : Nat) : Int)) (by decide) (by rw [Int.tmod_eq_emod_of_nonneg (by omega)]; omega))) ?_
      clear H a; intro a H
      refine e_op H rfl rfl (by decide) (x_conv H rfl rfl (c_int (z := ((at_ : Nat) : Int)) Tryd.underlying39 Tryd.underlying3 (by rw [← hat]; exact wrap_i64_small _ (by omega) (by omega)))) ?_
      clear H a; intro a H
      refine e_op H rfl rfl (by decide) (x_assign H rfl rfl) ?_
      clear H a; intro a H
      refine e_nil (hR.out _ _ ?_)
      clear hR R
      refine hK5 _ _ ?_
      clear hK5 K5
      refine wp_seq_k (fun K6 hK6 => ?_)
      refine e_region (fun R hR => ?_)
      refine e_op H rfl rfl (by decide) (x_move H rfl rfl) ?_
      clear H a; intro a H
      refine e_op H rfl rfl (by decide) (x_nilCheck H rfl rfl) ?_
      clear H a; intro a H
      refine e_op H rfl rfl (by decide) (x_fieldAddr H rfl rfl (fa74_1 _ _)) ?_
      clear H a; intro a H
      refine e_op H rfl rfl (by decide) (x_move H rfl rfl) ?_
      clear H a; intro a H
      refine e_op H rfl rfl (by decide) (x_slice H rfl rfl rfl rfl (sl_arr_lo (lo := at_) Tryd.underlying72 Tryd.sizeOf5 rfl (by omega))) ?_
      clear H a; intro a H
      refine e_op H rfl rfl (by decide) (x_move H rfl rfl) ?_
      clear H a; intro a H
      obtain ⟨w2, hcopy, H2s, F2⟩ := run_copyH (n := L.length) (cx := c2) 3 HS hp2.bs (at_ := at_) (by omega)
      rw [← hkk] at hcopy H2s
      refine e_op H rfl rfl (by decide) (x_builtin H rfl rfl (fun cs => bi_copy hcopy)) ?_
      clear H a; intro a H
      refine e_op H rfl rfl (by decide) (x_assign H rfl rfl) ?_
      clear H a; intro a H
      refine e_nil (hR.out _ _ ?_)
      clear hR R
      refine hK6 _ _ ?_
      clear hK6 K6
      refine wp_seq_k (fun K7 hK7 => ?_)
      refine e_region (fun R hR => ?_)
      refine e_op H rfl rfl (by decide) (x_move H rfl rfl) ?_
      clear H a; intro a H
      refine e_op H rfl rfl (by decide) (x_move H rfl rfl) ?_
      clear H a; intro a H
      refine e_op H rfl rfl (by decide) (x_slice H rfl rfl rfl rfl (sl_lo (lo := kk) Tryd.underlying22 Tryd.sizeOf5 rfl (by omega))) ?_
      clear H a; intro a H
      refine e_op H rfl rfl (by decide) (x_assign H rfl rfl) ?_
      clear H a; intro a H
      refine e_nil (hR.out _ _ ?_)
      clear hR R
      refine hK7 _ _ ?_
      clear hK7 K7
      refine wp_seq_k (fun K8 hK8 => ?_)
      refine e_region (fun R hR => ?_)
      refine e_op H rfl rfl (by decide) (x_move H rfl rfl) ?_
      clear H a; intro a H
      refine e_op H rfl rfl (by decide) (x_nilCheck H rfl rfl) ?_
      clear H a; intro a H
      refine e_op H rfl rfl (by decide) (x_fieldAddr H rfl rfl (fa74_2 _ _)) ?_
      clear H a; intro a H
      refine e_op H rfl rfl (by decide) (x_load H rfl rfl (l_cell Tryd.isAgg39 (H2s.tot))) ?_
      clear H a; intro a H
      refine e_op H rfl rfl (by decide) (x_move H rfl rfl) ?_
      clear H a; intro a H
      refine e_op H rfl rfl (by decide) (x_conv H rfl rfl (c_int (z := (kk : Int)) Tryd.underlying3 Tryd.underlying39 (wrap_u64_small _ (by omega) (by omega)))) ?_
      clear H a; intro a H
      refine e_op H rfl rfl (by decide) (x_binI H rfl rfl rfl (b_add (z := ((L.length + kk : Nat) : Int)) (by rw [wrap_u64_small _ (by omega) (by omega)]; omega))) ?_
      clear H a; intro a H
      refine e_op H rfl rfl (by decide) (x_nilCheck H rfl rfl) ?_
      clear H a; intro a H
      refine e_op H rfl rfl (by decide) (x_fieldAddr H rfl rfl (fa74_2 _ _)) ?_
      clear H a; intro a H
      refine e_st H rfl rfl (x_store H rfl rfl rfl (st_cell rfl rfl Tryd.sizeOf39 (H2s.blk.frozen 72) (H2s.some 72 (by omega)))) ?_
      have H3s := H2s.setT (L.length + kk)
      have F3 := F2.st g 72 (.int .u64 ((L.length + kk : Nat) : Int)) (.inl (by simp))
      have F03 := F0.tr F3
      refine e_nil (hR.out _ _ ?_)
      clear hR R
      refine hK8 _ _ ?_
      clear hK8 K8
      refine wp_seq_k (fun K9 hK9 => ?_)
      refine e_region (fun R hR => ?_)
      refine e_op H rfl rfl (by decide) (x_move H rfl rfl) ?_
      clear H a; intro a H
      refine e_op H rfl rfl (by decide) (x_move H rfl rfl) ?_
      clear H a; intro a H
      refine e_op H rfl rfl (by decide) (x_binI H rfl rfl rfl (b_add (z := ((at_ + kk : Nat) : Int)) (by rw [IntKind.wrap_i64]; omega))) ?_
      clear H a; intro a H
      refine e_op H rfl rfl (by decide) (x_binI H rfl rfl rfl (b_eql (b := true) (beq_t (by omega)))) ?_
      clear H a; intro a H
      refine e_nil (hR.out _ _ ?_)
      clear hR R
      refine hK9 _ _ ?_
      clear hK9 K9
      refine c_true H rfl ?_
      refine e_region (fun R hR => ?_)
      refine e_op H rfl rfl (by decide) (x_move H rfl rfl) ?_
      clear H a; intro a H
      refine e_callq H rfl rfl (by decide) rfl rfl (Tryd.call43 _) (mix_any g (blk L (L.length / 64)) _ _ _ H3s (K0.frm F03 (by simpa using Ne.symm hg))) ?_
      clear H a
      rintro e w4 ⟨rfl, H4s, F4⟩
      rw [← hr] at H4s
      refine ⟨_, rfl, fun a H => ?_⟩
      refine e_nil (hR.out _ _ ?_)
      clear hR R
      refine ⟨m - (k + kk), by omega, k + kk, cutA ad2 c2 kk, c2 - kk, by omega, rfl, ?_, ?_, ?_, F03.tr F4⟩
      · rw [show m - k - kk = m - (k + kk) by omega] at H
        exact H.sub ⟨rfl, rfl, trivial⟩
      · have := (hp2.frm ((F2.st g 72 (.int .u64 ((L.length + kk : Nat) : Int)) (.inl (by simp))).tr F4)).cut kk (by omega)
        rwa [List.drop_drop, show m - k - kk = m - (k + kk) by omega] at this
      · rw [List.take_add, ← List.append_assoc, ← hL, ← hr]
        obtain ⟨e1, e2, e3⟩ := piece_full L r bs hbs (by rw [hrl]; omega) HS.l64
        rw [hrl, hat] at e3
        rw [e3] at H4s
        refine ⟨bs.take at_ ++ r ++ bs.drop (at_ + kk), ?_, ?_⟩
        · rw [e1, List.length_append, hrl]; exact H4s
        · rw [e2, e1, List.take_zero, List.drop_eq_nil_of_le (by rw [List.length_append, hrl]; omega)]
    · skip
      skip
      refine wp_seq_k (fun K10 hK10 => ?_)
      refine wp_seq_k (fun K11 hK11 => ?_)
      refine e_region (fun R hR => ?_)
      refine e_op H rfl rfl (by decide) (x_move H rfl rfl) ?_
      clear H a; intro a H
      refine e_op H rfl rfl (by decide) (x_builtin H rfl rfl (fun cs => len_sl Tryd.underlying22)) ?_
      clear H a; intro a H
      refine e_op H rfl rfl (by decide) (x_binI H rfl rfl rfl (b_gtr (b := true) (dec_t (by omega)))) ?_
      clear H a; intro a H
      refine e_nil (hR.out _ _ ?_)
      clear hR R
      refine hK11 _ _ ?_
      clear hK11 K11
      refine c_true H rfl ?_
      refine wp_skip ?_
      refine hK10 _ _ ?_
      clear hK10 K10
      refine wp_block ?_
      refine wp_seq_k (fun K12 hK12 => ?_)
      refine e_region (fun R hR => ?_)
      refine e_op H rfl rfl (by decide) (x_move H rfl rfl) ?_
      clear H a; intro a H
      refine e_op H rfl rfl (by decide) (x_nilCheck H rfl rfl) ?_
      clear H a; intro a H
      refine e_op H rfl rfl (by decide) (x_fieldAddr H rfl rfl (fa74_2 _ _)) ?_
      clear H a; intro a H
      refine e_op H rfl rfl (by decide) (x_load H rfl rfl (l_cell Tryd.isAgg39 (HS.tot))) ?_
      clear H a; intro a H
      refine e_op H rfl rfl (by decide) (x_binI H rfl rfl rfl (b_rem (z := ((L.length % 64 : Nat) : Int)) (by decide) (by rw [Int.tmod_eq_emod_of_nonneg (by omega)]; omega))) ?_
      clear H a; intro a H
      refine e_op H rfl rfl (by decide) (x_conv H rfl rfl (c_int (z := ((at_ : Nat) : Int)) Tryd.underlying39 Tryd.underlying3 (by rw [← hat]; exact wrap_i64_small _ (by omega) (by omega)))) ?_
      clear H a; intro a H
      refine e_op H rfl rfl (by decide) (x_assign H rfl rfl) ?_
      clear H a; intro a H
      refine e_nil (hR.out _ _ ?_)
      clear hR R
      refine hK12 _ _ ?_
      clear hK12 K12
      refine wp_seq_k (fun K13 hK13 => ?_)
      refine e_region (fun R hR => ?_)
      refine e_op H rfl rfl (by decide) (x_move H rfl rfl) ?_
      clear H a; intro a H
      refine e_op H rfl rfl (by decide) (x_nilCheck H rfl rfl) ?_
      clear H a; intro a H
      refine e_op H rfl rfl (by decide) (x_fieldAddr H rfl rfl (fa74_1 _ _)) ?_
      clear H a; intro a H
      refine e_op H rfl rfl (by decide) (x_move H rfl rfl) ?_
      clear H a; intro a H
      refine e_op H rfl rfl (by decide) (x_slice H rfl rfl rfl rfl (sl_arr_lo (lo := at_) Tryd.underlying72 Tryd.sizeOf5 rfl (by omega))) ?_
      clear H a; intro a H
      refine e_op H rfl rfl (by decide) (x_move H rfl rfl) ?_
      clear H a; intro a H
      obtain ⟨w2, hcopy, H2s, F2⟩ := run_copyH (n := L.length) (cx := c2) 3 HS hp2.bs (at_ := at_) (by omega)
      rw [← hkk] at hcopy H2s
      refine e_op H rfl rfl (by decide) (x_builtin H rfl rfl (fun cs => bi_copy hcopy)) ?_
      clear H a; intro a H
      refine e_op H rfl rfl (by decide) (x_assign H rfl rfl) ?_
      clear H a; intro a H
      refine e_nil (hR.out _ _ ?_)
      clear hR R
      refine hK13 _ _ ?_
      clear hK13 K13
      refine wp_seq_k (fun K14 hK14 => ?_)
      refine e_region (fun R hR => ?_)
      refine e_op H rfl rfl (by decide) (x_move H rfl rfl) ?_
      clear H a; intro a H
      refine e_op H rfl rfl (by decide) (x_move H rfl rfl) ?_
      clear H a; intro a H
      refine e_op H rfl rfl (by decide) (x_slice H rfl rfl rfl rfl (sl_lo (lo := kk) Tryd.underlying22 Tryd.sizeOf5 rfl (by omega))) ?_
      clear H a; intro a H
      refine e_op H rfl rfl (by decide) (x_assign H rfl rfl) ?_
      clear H a; intro a H
      refine e_nil (hR.out _ _ ?_)
      clear hR R
      refine hK14 _ _ ?_
      clear hK14 K14
      refine wp_seq_k (fun K15 hK15 => ?_)
      refine e_region (fun R hR => ?_)
      refine e_op H rfl rfl (by decide) (x_move H rfl rfl) ?_
      clear H a; intro a H
      refine e_op H rfl rfl (by decide) (x_nilCheck H rfl rfl) ?_
      clear H a; intro a H
      refine e_op H rfl rfl (by decide) (x_fieldAddr H rfl rfl (fa74_2 _ _)) ?_
      clear H a; intro a H
      refine e_op H rfl rfl (by decide) (x_load H rfl rfl (l_cell Tryd.isAgg39 (H2s.tot))) ?_
      clear H a; intro a H
      refine e_op H rfl rfl (by decide) (x_move H rfl rfl) ?_
      clear H a; intro a H
      refine e_op H rfl rfl (by decide) (x_conv H rfl rfl (c_int (z := (kk : Int)) Tryd.underlying3 Tryd.underlying39 (wrap_u64_small _ (by omega) (by omega)))) ?_
      clear H a; intro a H
      refine e_op H rfl rfl (by decide) (x_binI H rfl rfl rfl (b_add (z := ((L.length + kk : Nat) : Int)) (by rw [wrap_u64_small _ (by omega) (by omega)]; omega))) ?_
      clear H a; intro a H
      refine e_op H rfl rfl (by decide) (x_nilCheck H rfl rfl) ?_
      clear H a; intro a H
      refine e_op H rfl rfl (by decide) (x_fieldAddr H rfl rfl (fa74_2 _ _)) ?_
      clear H a; intro a H
      refine e_st H rfl rfl (x_store H rfl rfl rfl (st_cell rfl rfl Tryd.sizeOf39 (H2s.blk.frozen 72) (H2s.some 72 (by omega)))) ?_
      have H3s := H2s.setT (L.length + kk)
      have F3 := F2.st g 72 (.int .u64 ((L.length + kk : Nat) : Int)) (.inl (by simp))
      have F03 := F0.tr F3
      refine e_nil (hR.out _ _ ?_)
      clear hR R
      refine hK15 _ _ ?_
      clear hK15 K15
      refine wp_seq_k (fun K16 hK16 => ?_)
      refine e_region (fun R hR => ?_)
      refine e_op H rfl rfl (by decide) (x_move H rfl rfl) ?_
      clear H a; intro a H
      refine e_op H rfl rfl (by decide) (x_move H rfl rfl) ?_
      clear H a; intro a H
      refine e_op H rfl rfl (by decide) (x_binI H rfl rfl rfl (b_add (z := ((at_ + kk : Nat) : Int)) (by rw [IntKind.wrap_i64]; omega))) ?_
      clear H a; intro a H
      refine e_op H rfl rfl (by decide) (x_binI H rfl rfl rfl (b_eql (b := false) (beq_f (by omega)))) ?_
      clear H a; intro a H
      refine e_nil (hR.out _ _ ?_)
      clear hR R
      refine hK16 _ _ ?_
      clear hK16 K16
      refine c_false H rfl ?_
      refine wp_skip ?_
      rw [← hr] at H3s
      refine ⟨m - (k + kk), by omega, k + kk, cutA ad2 c2 kk, c2 - kk, by omega, rfl, ?_, ?_, ?_, F03⟩
      · rw [show m - k - kk = m - (k + kk) by omega] at H
        exact H.sub ⟨rfl, rfl, trivial⟩
      · have := (hp2.frm ((F2.st g 72 (.int .u64 ((L.length + kk : Nat) : Int)) (.inl (by simp))))).cut kk (by omega)
        rwa [List.drop_drop, show m - k - kk = m - (k + kk) by omega] at this
      · rw [List.take_add, ← List.append_assoc, ← hL, ← hr]
        obtain ⟨e1, e2, e3, e4⟩ := piece_part L r bs hbs (by rw [hrl]; omega) HS.l64
        rw [hrl] at e3
        rw [hat] at e3
        refine ⟨bs.take at_ ++ r ++ bs.drop (at_ + kk), ?_, ?_⟩
        · rw [e1, e4, List.length_append, hrl]; exact H3s
        · rw [e2, hrl, hat, e1]; exact e3
    · skip
      obtain rfl : k = m := by omega
      refine wp_seq_k (fun K17 hK17 => ?_)
      refine wp_seq_k (fun K18 hK18 => ?_)
      refine e_region (fun R hR => ?_)
      refine e_op H rfl rfl (by decide) (x_move H rfl rfl) ?_
      clear H a; intro a H
      refine e_op H rfl rfl (by decide) (x_builtin H rfl rfl (fun cs => len_sl Tryd.underlying22)) ?_
      clear H a; intro a H
      refine e_op H rfl rfl (by decide) (x_binI H rfl rfl rfl (b_gtr (b := false) (dec_f (by omega)))) ?_
      clear H a; intro a H
      refine e_nil (hR.out _ _ ?_)
      clear hR R
      refine hK18 _ _ ?_
      clear hK18 K18
      refine c_false H rfl ?_
      refine wp_exit ?_
      refine t_exit ?_
      refine t_exit ?_
      refine b_hit ?_
      clear hK17 K17
      refine end0 H rfl ⟨rfl, ?_, F0⟩
      rw [List.take_of_length_le (by omega)] at hL
      rw [← hL]
      exact ⟨bs, HS, hbs⟩
end Go.Proofs.YtknllmcpogoeoaaDoor
