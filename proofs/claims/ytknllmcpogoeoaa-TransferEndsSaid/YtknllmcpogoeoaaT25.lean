/- One move of a play, walked: an acknowledgement comes in. -/
import Derived.Test.YtknllmcpogoeoaaT22
namespace Go.Proofs.Ytknllmcpogoeoaa
open Go.RowKit
set_option linter.unusedVariables false
set_option linter.unusedSimpArgs false
set_option maxRecDepth 100000
theorem gb_setb (l : List Bool) (i k : Nat) (b : Bool) (hi : i < l.length) : gb (l.set i b) k = if k = i then b else gb l k := by
  unfold gb
  by_cases h : k = i
  · subst h
    rw [if_pos rfl, List.getElem?_set_self hi]; rfl
  · rw [if_neg h, List.getElem?_set_ne (fun e => h e.symm)]
theorem three_ways (q N : Nat) (b : Bool) (h : q ≤ N) : (q < N ∧ b = false) ∨ (q < N ∧ b = true) ∨ q = N := by
  rcases Nat.lt_or_ge q N with h1 | h1
  · cases b
    · exact .inl ⟨h1, rfl⟩
    · exact .inr (.inl ⟨h1, rfl⟩)
  · exact .inr (.inr (by omega))
theorem do_back (wB : World) (gw gs gr id : Nat) (file : List UInt8) (V : Wv) (p : Wp) (kd at_ bz : Nat) (st : Bool) (w0 : World) (D : Wd w0 wB.heap.size gw gs gr V p) (KK : Wok p id file) (E0 : Ext wB w0) (hkd : kd ≤ 255) (hat : at_ ≤ 65535) (hbz : bz ≤ 4294967295)
    (hK : 8 ≤ kd % 10) : Calls Try.prog 102 #[.pointer (some ⟨gw, 0, none⟩), .agg #[.int .u8 (kd : Int), .int .u16 (at_ : Int), .bool st, .int .u32 (bz : Int)]] w0 (DoPost wB gw gs gr id file) := by
  have hfll := KK.fll
  have hid := KK.idl
  have hps0 := KK.sid
  have hcl := chunks_le hfll
  have hcp := chunksT_pos file.length
  have hal := KK.alen_
  have hble := KK.ble
  have hxb : V.xb.length = p.bck.length := by rw [D.eb.len, List.length_map]
  have hxk : V.xk.length = p.bck.length := by rw [D.ek.len, KK.aks, List.length_map]
  rcases Nat.eq_zero_or_pos p.bck.length with he | hne
  · skip
    obtain ⟨ba, bc, hvb, _⟩ := D.rb.shape
    refine calls_has (args := [.pointer (some ⟨gw, 0, none⟩), .agg #[.int .u8 (kd : Int), .int .u16 (at_ : Int), .bool st, .int .u32 (bz : Int)]]) Try.func102 rfl Try.ntmps102 (Nat.le_of_ble_eq_true rfl) (fun a H => ?_)
    simp only [argl, Nat.reduceAdd] at H
    refine wp_seq_k (fun K1 hK1 => ?_)
    refine e_region (fun R hR => ?_)
    refine e_op H rfl rfl (by decide) (x_box H rfl rfl bx_new) ?_
    clear H a; intro a H
    have M0 := Blk.new w0 168 [.int .u8 (kd : Int), .int .u16 (at_ : Int), .bool st, .int .u32 (bz : Int)]
    have E1 := E0.al (.cells #[.int .u8 (kd : Int), .int .u16 (at_ : Int), .bool st, .int .u32 (bz : Int)] 168)
    have D1 := D.ext ((Ext.refl w0).al (.cells #[.int .u8 (kd : Int), .int .u16 (at_ : Int), .bool st, .int .u32 (bz : Int)] 168))
    obtain ⟨g3, hg3⟩ : ∃ g, g = w0.heap.size := ⟨_, rfl⟩
    rw [← hg3] at H M0
    generalize w0.alloc (.cells #[.int .u8 (kd : Int), .int .u16 (at_ : Int), .bool st, .int .u32 (bz : Int)] 168) = w1 at *
    clear D
    have D := D1
    clear D1
    refine e_op H rfl rfl (by decide) (x_assign H rfl rfl) ?_
    clear H a; intro a H
    refine e_nil (hR.out _ _ ?_)
    clear hR R
    refine hK1 _ _ ?_
    clear hK1 K1
    refine wp_seq_k (fun K2 hK2 => ?_)
    refine wp_seq_k (fun K3 hK3 => ?_)
    refine e_region (fun R hR => ?_)
    refine e_op H rfl rfl (by decide) (x_fieldAddr H rfl rfl (fa168_0 _ _)) ?_
    clear H a; intro a H
    refine e_op H rfl rfl (by decide) (x_load H rfl rfl (l_cell Try.isAgg5 (M0.at_ (i := 0) rfl))) ?_
    clear H a; intro a H
    refine e_op H rfl rfl (by decide) (x_binI H rfl rfl rfl (b_rem (z := ((kd % 10 : Nat) : Int)) (by decide) (by rw [Int.tmod_eq_emod_of_nonneg (by omega)]; omega))) ?_
    clear H a; intro a H
    refine e_op H rfl rfl (by decide) (x_assign H rfl rfl) ?_
    clear H a; intro a H
    refine e_nil (hR.out _ _ ?_)
    clear hR R
    refine hK3 _ _ ?_
    clear hK3 K3
    refine wp_block ?_
    refine wp_seq_k (fun K4 hK4 => ?_)
    refine e_region (fun R hR => ?_)
    refine e_op H rfl rfl (by decide) (x_move H rfl rfl) ?_
    clear H a; intro a H
    refine e_op H rfl rfl (by decide) (x_binI H rfl rfl rfl (b_lss (b := false) (dec_f (by omega)))) ?_
    clear H a; intro a H
    refine e_op H rfl rfl (by decide) (x_assign H rfl rfl) ?_
    clear H a; intro a H
    refine e_nil (hR.out _ _ ?_)
    clear hR R
    refine hK4 _ _ ?_
    clear hK4 K4
    refine c_false H rfl ?_
    refine wp_seq_k (fun K5 hK5 => ?_)
    refine e_region (fun R hR => ?_)
    refine e_op H rfl rfl (by decide) (x_move H rfl rfl) ?_
    clear H a; intro a H
    refine e_op H rfl rfl (by decide) (x_binI H rfl rfl rfl (b_lss (b := false) (dec_f (by omega)))) ?_
    clear H a; intro a H
    refine e_op H rfl rfl (by decide) (x_assign H rfl rfl) ?_
    clear H a; intro a H
    refine e_nil (hR.out _ _ ?_)
    clear hR R
    refine hK5 _ _ ?_
    clear hK5 K5
    refine c_false H rfl ?_
    refine wp_seq_k (fun K6 hK6 => ?_)
    refine e_region (fun R hR => ?_)
    refine e_op H rfl rfl (by decide) (x_move H rfl rfl) ?_
    clear H a; intro a H
    refine e_op H rfl rfl (by decide) (x_binI H rfl rfl rfl (b_eql (b := false) (beq_f (by omega)))) ?_
    clear H a; intro a H
    refine e_op H rfl rfl (by decide) (x_assign H rfl rfl) ?_
    clear H a; intro a H
    refine e_nil (hR.out _ _ ?_)
    clear hR R
    refine hK6 _ _ ?_
    clear hK6 K6
    refine c_false H rfl ?_
    refine wp_seq_k (fun K7 hK7 => ?_)
    refine wp_seq_k (fun K8 hK8 => ?_)
    refine e_region (fun R hR => ?_)
    refine e_op H rfl rfl (by decide) (x_move H rfl rfl) ?_
    clear H a; intro a H
    refine e_op H rfl rfl (by decide) (x_nilCheck H rfl rfl) ?_
    clear H a; intro a H
    refine e_op H rfl rfl (by decide) (x_fieldAddr H rfl rfl (fa158_6 _ _)) ?_
    clear H a; intro a H
    refine e_op H rfl rfl (by decide) (x_load H rfl rfl (l_cell (v := .slice ba V.xb.length bc) Try.isAgg37 (D.blk.at_ (i := 7) (by rw [← hvb]; rfl)))) ?_
    clear H a; intro a H
    refine e_op H rfl rfl (by decide) (x_builtin H rfl rfl (fun cs => len_sl Try.underlying37)) ?_
    clear H a; intro a H
    refine e_op H rfl rfl (by decide) (x_binI H rfl rfl rfl (b_eql (b := true) (beq_t (by omega)))) ?_
    clear H a; intro a H
    refine e_nil (hR.out _ _ ?_)
    clear hR R
    refine hK8 _ _ ?_
    clear hK8 K8
    refine c_true H rfl ?_
    refine wp_seq_k (fun K9 hK9 => ?_)
    refine e_region (fun R hR => ?_)
    refine e_op H rfl rfl (by decide) (x_assign H rfl rfl) ?_
    clear H a; intro a H
    refine e_nil (hR.out _ _ ?_)
    clear hR R
    refine hK9 _ _ ?_
    clear hK9 K9
    refine wp_ret ?_
    refine t_ret ?_
    refine b_ret ?_
    refine t_ret ?_
    exact ret1 H rfl rfl ⟨rfl, V, p, D, KK, E1⟩
  · skip
    obtain ⟨bg, bo, bc, hvb⟩ := D.rb.pos (by omega)
    obtain ⟨kg, ko, kc, hvk⟩ := D.rk.pos (by omega)
    obtain ⟨i, hi⟩ : ∃ i, i = at_ % V.xb.length := ⟨_, rfl⟩
    have hie : ((at_ : Nat) : Int) % ((V.xb.length : Nat) : Int) = (i : Int) := by rw [hi]; exact (Int.natCast_emod _ _).symm
    have hil2 : i < p.bck.length := by rw [hi, hxb]; exact Nat.mod_lt _ hne
    clear hi
    obtain ⟨m, hm⟩ : ∃ m, p.bck[i]? = some m := ⟨p.bck[i], List.getElem?_eq_getElem hil2⟩
    have hmem := List.mem_of_getElem? hm
    obtain ⟨hml, hmg⟩ := KK.bok m hmem
    obtain ⟨N, hN⟩ : ∃ N, N = chunksT file.length := ⟨_, rfl⟩
    rw [← hN] at hcl hcp hal
    have hmtl : (m.take N).length = N := take_len hml hcl
    have hfk : (p.bck.map (ackP p.s.id))[i]? = some (ackP p.s.id m) := by rw [List.getElem?_map, hm]; rfl
    have hkt : p.aks[i]? = some (m.take N) := by rw [KK.aks, List.getElem?_map, hm, hN]; rfl
    obtain ⟨vm, hvm, _⟩ := D.ek.at_ i _ hkt
    have hbey : ∀ k, chunksT p.s.file.length ≤ k → gb m k = false := fun k hk => by
      have h1 := KK.rof.beyond k (by rw [← KK.sfile]; exact hk)
      cases h2 : gb m k with
      | false => rfl
      | true => rw [hmg k h2] at h1; cases h1
    have hpl : (ackP p.s.id m).length ≤ 144 ∧ 4 ≤ (ackP p.s.id m).length := by
      have := ackP_len p.s.id m (by omega)
      unfold ackP
      rw [tseal_len]
      omega
    refine calls_has (args := [.pointer (some ⟨gw, 0, none⟩), .agg #[.int .u8 (kd : Int), .int .u16 (at_ : Int), .bool st, .int .u32 (bz : Int)]]) Try.func102 rfl Try.ntmps102 (Nat.le_of_ble_eq_true rfl) (fun a H => ?_)
    simp only [argl, Nat.reduceAdd] at H
    refine wp_seq_k (fun K1 hK1 => ?_)
    refine e_region (fun R hR => ?_)
    refine e_op H rfl rfl (by decide) (x_box H rfl rfl bx_new) ?_
    clear H a; intro a H
    have M0 := Blk.new w0 168 [.int .u8 (kd : Int), .int .u16 (at_ : Int), .bool st, .int .u32 (bz : Int)]
    have E1 := E0.al (.cells #[.int .u8 (kd : Int), .int .u16 (at_ : Int), .bool st, .int .u32 (bz : Int)] 168)
    have D1 := D.ext ((Ext.refl w0).al (.cells #[.int .u8 (kd : Int), .int .u16 (at_ : Int), .bool st, .int .u32 (bz : Int)] 168))
    obtain ⟨g3, hg3⟩ : ∃ g, g = w0.heap.size := ⟨_, rfl⟩
    rw [← hg3] at H M0
    generalize w0.alloc (.cells #[.int .u8 (kd : Int), .int .u16 (at_ : Int), .bool st, .int .u32 (bz : Int)] 168) = w1 at *
    clear D
    have D := D1
    clear D1
    refine e_op H rfl rfl (by decide) (x_assign H rfl rfl) ?_
    clear H a; intro a H
    refine e_nil (hR.out _ _ ?_)
    clear hR R
    refine hK1 _ _ ?_
    clear hK1 K1
    refine wp_seq_k (fun K2 hK2 => ?_)
    refine wp_seq_k (fun K3 hK3 => ?_)
    refine e_region (fun R hR => ?_)
    refine e_op H rfl rfl (by decide) (x_fieldAddr H rfl rfl (fa168_0 _ _)) ?_
    clear H a; intro a H
    refine e_op H rfl rfl (by decide) (x_load H rfl rfl (l_cell Try.isAgg5 (M0.at_ (i := 0) rfl))) ?_
    clear H a; intro a H
    refine e_op H rfl rfl (by decide) (x_binI H rfl rfl rfl (b_rem (z := ((kd % 10 : Nat) : Int)) (by decide) (by rw [Int.tmod_eq_emod_of_nonneg (by omega)]; omega))) ?_
    clear H a; intro a H
    refine e_op H rfl rfl (by decide) (x_assign H rfl rfl) ?_
    clear H a; intro a H
    refine e_nil (hR.out _ _ ?_)
    clear hR R
    refine hK3 _ _ ?_
    clear hK3 K3
    refine wp_block ?_
    refine wp_seq_k (fun K4 hK4 => ?_)
    refine e_region (fun R hR => ?_)
    refine e_op H rfl rfl (by decide) (x_move H rfl rfl) ?_
    clear H a; intro a H
    refine e_op H rfl rfl (by decide) (x_binI H rfl rfl rfl (b_lss (b := false) (dec_f (by omega)))) ?_
    clear H a; intro a H
    refine e_op H rfl rfl (by decide) (x_assign H rfl rfl) ?_
    clear H a; intro a H
    refine e_nil (hR.out _ _ ?_)
    clear hR R
    refine hK4 _ _ ?_
    clear hK4 K4
    refine c_false H rfl ?_
    refine wp_seq_k (fun K5 hK5 => ?_)
    refine e_region (fun R hR => ?_)
    refine e_op H rfl rfl (by decide) (x_move H rfl rfl) ?_
    clear H a; intro a H
    refine e_op H rfl rfl (by decide) (x_binI H rfl rfl rfl (b_lss (b := false) (dec_f (by omega)))) ?_
    clear H a; intro a H
    refine e_op H rfl rfl (by decide) (x_assign H rfl rfl) ?_
    clear H a; intro a H
    refine e_nil (hR.out _ _ ?_)
    clear hR R
    refine hK5 _ _ ?_
    clear hK5 K5
    refine c_false H rfl ?_
    refine wp_seq_k (fun K6 hK6 => ?_)
    refine e_region (fun R hR => ?_)
    refine e_op H rfl rfl (by decide) (x_move H rfl rfl) ?_
    clear H a; intro a H
    refine e_op H rfl rfl (by decide) (x_binI H rfl rfl rfl (b_eql (b := false) (beq_f (by omega)))) ?_
    clear H a; intro a H
    refine e_op H rfl rfl (by decide) (x_assign H rfl rfl) ?_
    clear H a; intro a H
    refine e_nil (hR.out _ _ ?_)
    clear hR R
    refine hK6 _ _ ?_
    clear hK6 K6
    refine c_false H rfl ?_
    refine wp_seq_k (fun K7 hK7 => ?_)
    refine wp_seq_k (fun K8 hK8 => ?_)
    refine e_region (fun R hR => ?_)
    refine e_op H rfl rfl (by decide) (x_move H rfl rfl) ?_
    clear H a; intro a H
    refine e_op H rfl rfl (by decide) (x_nilCheck H rfl rfl) ?_
    clear H a; intro a H
    refine e_op H rfl rfl (by decide) (x_fieldAddr H rfl rfl (fa158_6 _ _)) ?_
    clear H a; intro a H
    refine e_op H rfl rfl (by decide) (x_load H rfl rfl (l_cell (v := .slice (some ⟨bg, bo, none⟩) V.xb.length bc) Try.isAgg37 (D.blk.at_ (i := 7) (by rw [← hvb]; rfl)))) ?_
    clear H a; intro a H
    refine e_op H rfl rfl (by decide) (x_builtin H rfl rfl (fun cs => len_sl Try.underlying37)) ?_
    clear H a; intro a H
    refine e_op H rfl rfl (by decide) (x_binI H rfl rfl rfl (b_eql (b := false) (beq_f (by omega)))) ?_
    clear H a; intro a H
    refine e_nil (hR.out _ _ ?_)
    clear hR R
    refine hK8 _ _ ?_
    clear hK8 K8
    refine c_false H rfl ?_
    refine wp_skip ?_
    refine hK7 _ _ ?_
    clear hK7 K7
    refine wp_seq_k (fun K9 hK9 => ?_)
    refine e_quiet (by kernel_rfl) (by kernel_rfl) (fun R hR => ?_)
    obtain ⟨w2, hw2⟩ : ∃ x_, x_ = w1.drew := ⟨_, rfl⟩
    have Ew2 : Ext w1 w2 := by rw [hw2]; exact (Ext.refl _).dr
    replace D := D.ext Ew2
    replace E1 := E1.tr Ew2
    replace M0 := M0.ext Ew2
    rw [← hw2]
    clear hw2
    refine s_op H rfl rfl (by decide) (x_fieldAddr H rfl rfl (fa168_1 _ _)) ?_
    clear H a; intro a H
    refine s_op H rfl rfl (by decide) (x_load H rfl rfl (l_cell Try.isAgg47 (M0.at_ (i := 1) rfl))) ?_
    clear H a; intro a H
    refine s_op H rfl rfl (by decide) (x_conv H rfl rfl (c_int (z := ((at_ : Nat) : Int)) Try.underlying47 Try.underlying3 (by rw [IntKind.wrap_i64]; omega))) ?_
    clear H a; intro a H
    refine s_op H rfl rfl (by decide) (x_move H rfl rfl) ?_
    clear H a; intro a H
    refine s_op H rfl rfl (by decide) (x_nilCheck H rfl rfl) ?_
    clear H a; intro a H
    refine s_op H rfl rfl (by decide) (x_fieldAddr H rfl rfl (fa158_6 _ _)) ?_
    clear H a; intro a H
    refine s_op H rfl rfl (by decide) (x_load H rfl rfl (l_cell (v := .slice (some ⟨bg, bo, none⟩) V.xb.length bc) Try.isAgg37 (D.blk.at_ (i := 7) (by rw [← hvb]; rfl)))) ?_
    clear H a; intro a H
    refine s_op H rfl rfl (by decide) (x_builtin H rfl rfl (fun cs => len_sl Try.underlying37)) ?_
    clear H a; intro a H
    refine s_op H rfl rfl (by decide) (x_binI H rfl rfl rfl (b_rem (z := (i : Int)) (by omega) (by rw [Int.tmod_eq_emod_of_nonneg (by omega)]; exact hie))) ?_
    clear H a; intro a H
    refine s_op H rfl rfl (by decide) (x_assign H rfl rfl) ?_
    clear H a; intro a H
    refine wpStill_nil (hR.out _ _ ?_)
    clear hR R
    refine hK9 _ _ ?_
    clear hK9 K9
    refine wp_seq_k (fun K10 hK10 => ?_)
    obtain ⟨wd, hwd⟩ : ∃ x_, x_ = w2.drew := ⟨_, rfl⟩
    have Ewd : Ext w2 wd := by rw [hwd]; exact (Ext.refl _).dr
    replace D := D.ext Ewd
    replace E1 := E1.tr Ewd
    replace M0 := M0.ext Ewd
    obtain ⟨pa, pc, hpx, hOp⟩ := D.eb.at_ i _ hfk
    have RB : Rw wd wB.heap.size 22 (.slice (some ⟨bg, bo, none⟩) V.xb.length bc) V.xb := hvb ▸ D.rb
    have HS := And.intro D.blk (And.intro RB M0)
    refine g_start (fun w' => Blk w' gw 158 (wCells gs gr V) ∧ Rw w' wB.heap.size 22 (.slice (some ⟨bg, bo, none⟩) V.xb.length bc) V.xb ∧ Blk w' g3 168 [.int .u8 (kd : Int), .int .u16 (at_ : Int), .bool st, .int .u32 (bz : Int)]) (by kernel_rfl) (fun R hR => ?_)
    rw [← hwd]
    refine g_take 0 H rfl (wanted_none rfl) rfl (by decide) (by kernel_rfl) (by kernel_rfl) (by kernel_rfl) HS (fun w' hSw => (x_move H rfl rfl)) ?_
    clear H a; intro a H
    refine g_take 1 H rfl (wanted_none rfl) rfl (by decide) (by kernel_rfl) (by kernel_rfl) (by kernel_rfl) HS (fun w' hSw => (x_nilCheck H rfl rfl)) ?_
    clear H a; intro a H
    refine g_take 2 H rfl (wanted_none rfl) rfl (by decide) (by kernel_rfl) (by kernel_rfl) (by kernel_rfl) HS (fun w' hSw => (x_fieldAddr H rfl rfl (fa158_6 _ _))) ?_
    clear H a; intro a H
    refine g_take 3 H rfl (wanted_none rfl) rfl (by decide) (by kernel_rfl) (by kernel_rfl) (by kernel_rfl) HS (fun w' hSw => (x_load H rfl rfl (l_cell (v := .slice (some ⟨bg, bo, none⟩) V.xb.length bc) Try.isAgg37 (hSw.1.at_ (i := 7) (by rw [← hvb]; rfl))))) ?_
    clear H a; intro a H
    refine g_take 4 H rfl (wanted_none rfl) rfl (by decide) (by kernel_rfl) (by kernel_rfl) (by kernel_rfl) HS (fun w' hSw => (x_move H rfl rfl)) ?_
    clear H a; intro a H
    refine g_take 5 H rfl (wanted_none rfl) rfl (by decide) (by kernel_rfl) (by kernel_rfl) (by kernel_rfl) HS (fun w' hSw => (x_indexAddr H rfl rfl rfl (i_sl (m := i) Try.underlying37 Try.sizeOf22 rfl (by omega)))) ?_
    clear H a; intro a H
    refine g_take 6 H rfl (wanted_none rfl) rfl (by decide) (by kernel_rfl) (by kernel_rfl) (by kernel_rfl) HS (fun w' hSw => (x_load H rfl rfl (l_cell Try.isAgg22 (hSw.2.1.cells i _ hpx)))) ?_
    clear H a; intro a H
    refine g_take 7 H rfl (wanted_none rfl) rfl (by decide) (by kernel_rfl) (by kernel_rfl) (by kernel_rfl) HS (fun w' hSw => (x_fieldAddr H rfl rfl (fa168_1 _ _))) ?_
    clear H a; intro a H
    refine g_take 8 H rfl (wanted_none rfl) rfl (by decide) (by kernel_rfl) (by kernel_rfl) (by kernel_rfl) HS (fun w' hSw => (x_load H rfl rfl (l_cell Try.isAgg47 (hSw.2.2.at_ (i := 1) rfl)))) ?_
    clear H a; intro a H
    refine g_take 9 H rfl (wanted_none rfl) rfl (by decide) (by kernel_rfl) (by kernel_rfl) (by kernel_rfl) HS (fun w' hSw => (x_conv H rfl rfl (c_int (z := ((at_ : Nat) : Int)) Try.underlying47 Try.underlying3 (by rw [IntKind.wrap_i64]; omega)))) ?_
    clear H a; intro a H
    refine g_take 10 H rfl (wanted_none rfl) rfl (by decide) (by kernel_rfl) (by kernel_rfl) (by kernel_rfl) HS (fun w' hSw => (x_move H rfl rfl)) ?_
    clear H a; intro a H
    refine g_take 11 H rfl (wanted_none rfl) rfl (by decide) (by kernel_rfl) (by kernel_rfl) (by kernel_rfl) HS (fun w' hSw => (x_nilCheck H rfl rfl)) ?_
    clear H a; intro a H
    refine g_take 12 H rfl (wanted_none rfl) rfl (by decide) (by kernel_rfl) (by kernel_rfl) (by kernel_rfl) HS (fun w' hSw => (x_fieldAddr H rfl rfl (fa158_6 _ _))) ?_
    clear H a; intro a H
    refine g_take 13 H rfl (wanted_none rfl) rfl (by decide) (by kernel_rfl) (by kernel_rfl) (by kernel_rfl) HS (fun w' hSw => (x_load H rfl rfl (l_cell (v := .slice (some ⟨bg, bo, none⟩) V.xb.length bc) Try.isAgg37 (hSw.1.at_ (i := 7) (by rw [← hvb]; rfl))))) ?_
    clear H a; intro a H
    refine g_take 14 H rfl (wanted_none rfl) rfl (by decide) (by kernel_rfl) (by kernel_rfl) (by kernel_rfl) HS (fun w' hSw => (x_move H rfl rfl)) ?_
    clear H a; intro a H
    refine g_take 15 H rfl (wanted_none rfl) rfl (by decide) (by kernel_rfl) (by kernel_rfl) (by kernel_rfl) HS (fun w' hSw => (x_indexAddr H rfl rfl rfl (i_sl (m := i) Try.underlying37 Try.sizeOf22 rfl (by omega)))) ?_
    clear H a; intro a H
    refine g_take 16 H rfl (wanted_none rfl) rfl (by decide) (by kernel_rfl) (by kernel_rfl) (by kernel_rfl) HS (fun w' hSw => (x_load H rfl rfl (l_cell Try.isAgg22 (hSw.2.1.cells i _ hpx)))) ?_
    clear H a; intro a H
    refine g_take 17 H rfl (wanted_none rfl) rfl (by decide) (by kernel_rfl) (by kernel_rfl) (by kernel_rfl) HS (fun w' hSw => (x_builtin H rfl rfl (fun cs => len_sl Try.underlying22))) ?_
    clear H a; intro a H
    refine g_take 18 H rfl (wanted_none rfl) rfl (by decide) (by kernel_rfl) (by kernel_rfl) (by kernel_rfl) HS (fun w' hSw => (x_binI H rfl rfl rfl (b_mul (z := ((8 * (ackP p.s.id m).length : Nat) : Int)) (by rw [IntKind.wrap_i64]; omega)))) ?_
    clear H a; intro a H
    refine g_take 19 H rfl (wanted_none rfl) rfl (by decide) (by kernel_rfl) (by kernel_rfl) (by kernel_rfl) HS (fun w' hSw => (x_builtin H rfl rfl (fun cs => bi_max (z := ((8 * (ackP p.s.id m).length : Nat) : Int)) (by split <;> omega)))) ?_
    clear H a; intro a H
    refine g_take 20 H rfl (wanted_none rfl) rfl (by decide) (by kernel_rfl) (by kernel_rfl) (by kernel_rfl) HS (fun w' hSw => (x_binI H rfl rfl rfl (b_rem (z := (((at_ % (8 * (ackP p.s.id m).length)) : Nat) : Int)) (by omega) (by rw [Int.tmod_eq_emod_of_nonneg (by omega)]; exact (Int.natCast_emod _ _).symm)))) ?_
    clear H a; intro a H
    refine g_take 21 H rfl (wanted_none rfl) rfl (by decide) (by kernel_rfl) (by kernel_rfl) (by kernel_rfl) HS (fun w' hSw => (x_fieldAddr H rfl rfl (fa168_3 _ _))) ?_
    clear H a; intro a H
    refine g_take 22 H rfl (wanted_none rfl) rfl (by decide) (by kernel_rfl) (by kernel_rfl) (by kernel_rfl) HS (fun w' hSw => (x_load H rfl rfl (l_cell Try.isAgg52 (hSw.2.2.at_ (i := 3) rfl)))) ?_
    clear H a; intro a H
    refine g_call 23 H rfl (by kernel_rfl) (wanted_none rfl) rfl (by decide) rfl rfl (Try.call133 _) (change_any pa _ pc (ackP p.s.id m) (at_ % (8 * (ackP p.s.id m).length)) bz wd hOp.bs (ow_cap hOp) (by omega) (Nat.le_trans (Nat.mod_le _ _) (by omega)) (by omega)) ?_
    clear H a
    rintro e we ⟨qa, qc, rfl, OQ, Ek⟩
    replace OQ := OQ.mono E1.sz
    replace D := D.ext Ek
    replace E1 := E1.tr Ek
    have HSn := And.intro D.blk (And.intro (RB.ext Ek) (M0.ext Ek))
    clear HS
    have HS := HSn
    refine ⟨_, rfl, HS, fun a H => ?_⟩
    refine g_take 24 H rfl (wanted_none rfl) rfl (by decide) (by kernel_rfl) (by kernel_rfl) (by kernel_rfl) HS (fun w' hSw => (x_move H rfl rfl)) ?_
    clear H a; intro a H
    refine g_take 25 H rfl (wanted_none rfl) rfl (by decide) (by kernel_rfl) (by kernel_rfl) (by kernel_rfl) HS (fun w' hSw => (x_extract H rfl rfl (v := .slice qa (ackP p.s.id m).length qc) rfl)) ?_
    clear H a; intro a H
    refine g_take 26 H rfl (wanted_none rfl) rfl (by decide) (by kernel_rfl) (by kernel_rfl) (by kernel_rfl) HS (fun w' hSw => (x_extract H rfl rfl (v := .bool (changed (at_ % (8 * (ackP p.s.id m).length)) (8 * (ackP p.s.id m).length) bz 32)) rfl)) ?_
    clear H a; intro a H
    refine g_take 27 H rfl (wanted_none rfl) rfl (by decide) (by kernel_rfl) (by kernel_rfl) (by kernel_rfl) HS (fun w' hSw => (x_assign H rfl rfl)) ?_
    clear H a; intro a H
    refine g_take 28 H rfl (wanted_none rfl) rfl (by decide) (by kernel_rfl) (by kernel_rfl) (by kernel_rfl) HS (fun w' hSw => (x_assign H rfl rfl)) ?_
    clear H a; intro a H
    refine g_done (by kernel_rfl) (hR.out _ _ ?_)
    clear hR R
    clear HS HSn RB hOp
    obtain ⟨qs, hqs⟩ : ∃ q, q = flips (ackP p.s.id m) (at_ % (8 * (ackP p.s.id m).length)) (8 * (ackP p.s.id m).length) bz 32 := ⟨_, rfl⟩
    rw [← hqs] at OQ
    obtain ⟨ch, hch⟩ : ∃ b, b = changed (at_ % (8 * (ackP p.s.id m).length)) (8 * (ackP p.s.id m).length) bz 32 := ⟨_, rfl⟩
    rw [← hch] at H
    refine hK10 _ _ ?_
    clear hK10 K10
    refine wp_seq_k (fun K11 hK11 => ?_)
    refine e_region (fun R hR => ?_)
    refine e_op H rfl rfl (by decide) (x_move H rfl rfl) ?_
    clear H a; intro a H
    refine e_op H rfl rfl (by decide) (x_nilCheck H rfl rfl) ?_
    clear H a; intro a H
    refine e_op H rfl rfl (by decide) (x_fieldAddr H rfl rfl (fa158_0 _ _)) ?_
    clear H a; intro a H
    refine e_op H rfl rfl (by decide) (x_load H rfl rfl (l_cell Try.isAgg64 (D.blk.at_ (i := 0) rfl))) ?_
    clear H a; intro a H
    refine e_op H rfl rfl (by decide) (x_move H rfl rfl) ?_
    clear H a; intro a H
    refine e_callq H rfl rfl (by decide) rfl rfl (Try.call53 _) (sack_any wB.heap.size gs V.vs p.s qa _ qc qs we D.sn OQ.bs (ow_cap OQ) (ow_le OQ) (by omega)) ?_
    clear H a
    rintro e wi ⟨rfl, Sa, Fa, _⟩
    have E9 := Fa.ext E1 (by intro x hx; simp only [List.mem_singleton] at hx; rw [hx]; exact D.sn.low)
    refine ⟨_, rfl, fun a H => ?_⟩
    refine e_op H rfl rfl (by decide) (x_assign H rfl rfl) ?_
    clear H a; intro a H
    refine e_nil (hR.out _ _ ?_)
    clear hR R
    refine hK11 _ _ ?_
    clear hK11 K11
    refine wp_seq_k (fun K12 hK12 => ?_)
    refine wp_seq_k (fun K13 hK13 => ?_)
    refine e_region (fun R hR => ?_)
    refine e_op H rfl rfl (by decide) (x_move H rfl rfl) ?_
    clear H a; intro a H
    refine e_nil (hR.out _ _ ?_)
    clear hR R
    refine hK13 _ _ ?_
    clear hK13 K13
    refine c_split H rfl (fun ht => ?_) (fun ht => ?_)
    · skip
      have ht' : changed (at_ % (8 * (ackP p.s.id m).length)) (8 * (ackP p.s.id m).length) bz 32 = true := by rw [← hch]; simpa using ht
      have hbu := Snd.ack_burst p.s _ qs (at_ % (8 * (ackP p.s.id m).length)) bz hqs ht' (by have := ackP_len p.s.id m (by omega); omega)
      rw [hbu] at H Sa
      have D9 := D.snd Fa Sa rfl rfl
      refine wp_seq_k (fun K14 hK14 => ?_)
      refine e_region (fun R hR => ?_)
      refine e_op H rfl rfl (by decide) (x_move H rfl rfl) ?_
      clear H a; intro a H
      refine e_op H rfl rfl (by decide) (x_binI H rfl rfl rfl (b_eql (b := false) (rfl))) ?_
      clear H a; intro a H
      refine e_op H rfl rfl (by decide) (x_move H rfl rfl) ?_
      clear H a; intro a H
      refine e_opg H (wanted_true H rfl rfl rfl rfl) rfl (by decide) (x_move H rfl rfl) ?_
      clear H a; intro a H
      refine e_opg H (wanted_true H rfl rfl rfl rfl) rfl (by decide) (x_binI H rfl rfl rfl (b_eql (b := true) (rfl))) ?_
      clear H a; intro a H
      refine e_op H rfl rfl (by decide) (x_pickF H rfl rfl rfl) ?_
      clear H a; intro a H
      refine e_op H rfl rfl (by decide) (x_assign H rfl rfl) ?_
      clear H a; intro a H
      refine e_nil (hR.out _ _ ?_)
      clear hR R
      refine hK14 _ _ ?_
      clear hK14 K14
      refine wp_ret ?_
      refine t_ret ?_
      refine b_ret ?_
      refine t_ret ?_
      exact ret1 H rfl rfl ⟨rfl, V, p, D9, KK, E9⟩
    · skip
      have ht' : changed (at_ % (8 * (ackP p.s.id m).length)) (8 * (ackP p.s.id m).length) bz 32 = false := by rw [← hch]; simpa using ht
      have hqe : qs = (ackP p.s.id m) := by rw [hqs, flips_none _ _ _ _ _ ht']
      rw [hqe] at H Sa
      have hput := (Snd.ack_put p.s p.s.id m (by omega) hml KK.alen).2.2 rfl hbey
      obtain ⟨s9, hs9⟩ : ∃ s, s = (p.s.ack (ackP p.s.id m)).2 := ⟨_, rfl⟩
      rw [← hs9] at Sa hput
      obtain ⟨g1, g2, g3', g4, g5⟩ := hput
      rw [g1] at H
      have D9 := D.snd Fa Sa g2 g3'
      have RM : ∀ {w : World} {q : Wp}, Wd w wB.heap.size gw gs gr V q → q.aks = p.aks → Rw w wB.heap.size 4 vm (bools (m.take N)) := by
        intro w q h e
        obtain ⟨v, h1, h2⟩ := h.ek.at_ i (m.take N) (by rw [e]; exact hkt)
        rw [hvm] at h1
        simp only [Option.some.injEq] at h1
        rw [h1]; exact h2
      obtain ⟨mg, mo, mc, hvm2⟩ := (RM D9 rfl).pos (by rw [bools_len]; omega)
      obtain ⟨ag, ao, ac, hva⟩ := D.ha.pos (by rw [bools_len]; omega)
      have RK : Rw wi wB.heap.size 152 (.slice (some ⟨kg, ko, none⟩) V.xk.length kc) V.xk := hvk ▸ D9.rk
      have hml2 := bools_len (m.take N)
      have hal2 := bools_len p.ack
      rw [hvm2] at hvm
      clear OQ Sa E1 M0 D
      refine wp_skip ?_
      refine hK12 _ _ ?_
      clear hK12 K12
      refine wp_seq_k (fun K15 hK15 => ?_)
      refine wp_seq_k (fun K16 hK16 => ?_)
      refine e_region (fun R hR => ?_)
      refine e_op H rfl rfl (by decide) (x_move H rfl rfl) ?_
      clear H a; intro a H
      refine e_op H rfl rfl (by decide) (x_nilCheck H rfl rfl) ?_
      clear H a; intro a H
      refine e_op H rfl rfl (by decide) (x_fieldAddr H rfl rfl (fa158_7 _ _)) ?_
      clear H a; intro a H
      refine e_op H rfl rfl (by decide) (x_load H rfl rfl (l_cell (v := .slice (some ⟨kg, ko, none⟩) V.xk.length kc) Try.isAgg156 (D9.blk.at_ (i := 8) (by rw [← hvk]; rfl)))) ?_
      clear H a; intro a H
      refine e_op H rfl rfl (by decide) (x_move H rfl rfl) ?_
      clear H a; intro a H
      refine e_op H rfl rfl (by decide) (x_indexAddr H rfl rfl rfl (i_sl (m := i) Try.underlying156 Try.sizeOf152 rfl (by omega))) ?_
      clear H a; intro a H
      refine e_op H rfl rfl (by decide) (x_load H rfl rfl (l_cell Try.isAgg152 (RK.cells i _ hvm))) ?_
      clear H a; intro a H
      refine e_op H rfl rfl (by decide) (x_builtin H rfl rfl (fun cs => len_sl Try.underlying152)) ?_
      clear H a; intro a H
      refine e_op H rfl rfl (by decide) (x_move H rfl rfl) ?_
      clear H a; intro a H
      refine e_nil (hR.out _ _ ?_)
      clear hR R
      rw [hml2, hmtl] at H
      refine hK16 _ _ ?_
      clear hK16 K16
      refine wp_block ?_
      refine wp_loop_ghost (fun n a w => ∃ q ak, q ≤ N ∧ n = N - q ∧ Has a 309 [(0, .pointer (some ⟨gw, 0, none⟩)), (17, .int .i64 0), (84, .slice (some ⟨mg, mo, none⟩) N mc), (85, .int .i64 (N : Int)), (86, .int .i64 (q : Int))] ∧ Wd w wB.heap.size gw gs gr V { p with s := s9, ack := ak } ∧ ak.length = N ∧ (∀ k, gb ak k = if k < q then (gb p.ack k || gb (m.take N) k) else gb p.ack k) ∧ Ext wB w) (N) ?_ ?_
      · skip
        exact ⟨0, p.ack, by omega, rfl, H.sub ⟨rfl, rfl, rfl, rfl, rfl, trivial⟩, D9, by omega, fun k => by rw [if_neg (by omega)], E9⟩
      · skip
        clear H D9 E9 RK
        intro n a w hI
        obtain ⟨q, ak, hq, rfl, H, D, hakl, G, E⟩ := hI
        have RMq : Rw w wB.heap.size 4 (.slice (some ⟨mg, mo, none⟩) N mc) (bools (m.take N)) := by have := hvm2 ▸ RM D rfl; rw [hml2, hmtl] at this; exact this
        rcases three_ways q N (gb ak q) hq with ⟨hlt, hgb⟩ | ⟨hlt, hgb⟩ | hqe2
        · skip
          skip
          refine wp_seq_k (fun K17 hK17 => ?_)
          refine e_region (fun R hR => ?_)
          refine e_op H rfl rfl (by decide) (x_binI H rfl rfl rfl (b_lss (b := true) (dec_t (by omega)))) ?_
          clear H a; intro a H
          refine e_nil (hR.out _ _ ?_)
          clear hR R
          refine hK17 _ _ ?_
          clear hK17 K17
          refine wp_seq_k (fun K18 hK18 => ?_)
          refine c_true H rfl ?_
          refine wp_skip ?_
          refine hK18 _ _ ?_
          clear hK18 K18
          refine wp_seq_k (fun K19 hK19 => ?_)
          refine wp_block ?_
          refine wp_seq_k (fun K20 hK20 => ?_)
          refine e_region (fun R hR => ?_)
          refine e_op H rfl rfl (by decide) (x_move H rfl rfl) ?_
          clear H a; intro a H
          refine e_op H rfl rfl (by decide) (x_indexAddr H rfl rfl rfl (i_sl (m := q) Try.underlying152 Try.sizeOf4 rfl (by omega))) ?_
          clear H a; intro a H
          refine e_op H rfl rfl (by decide) (x_load H rfl rfl (l_cell Try.isAgg4 (RMq.cells q _ (bools_get _ _ (by omega))))) ?_
          clear H a; intro a H
          refine e_op H rfl rfl (by decide) (x_assign H rfl rfl) ?_
          clear H a; intro a H
          refine e_op H rfl rfl (by decide) (x_assign H rfl rfl) ?_
          clear H a; intro a H
          refine e_nil (hR.out _ _ ?_)
          clear hR R
          refine hK20 _ _ ?_
          clear hK20 K20
          refine e_tail 18 (by kernel_rfl) (by kernel_rfl) (fun R hR => ?_)
          simp only [List.take_succ_cons, List.take_zero, List.drop_succ_cons, List.drop_zero]
          obtain ⟨w2, hw2⟩ : ∃ x_, x_ = w.drew := ⟨_, rfl⟩
          have Ew2 : Ext w w2 := by rw [hw2]; exact (Ext.refl _).dr
          replace D := D.ext Ew2
          replace E := E.tr Ew2
          have RA : Rw w2 wB.heap.size 4 (.slice (some ⟨ag, ao, none⟩) (bools p.ack).length ac) (bools ak) := hva ▸ D.ha
          rw [← hw2]
          clear hw2
          refine s_op H rfl rfl (by decide) (x_move H rfl rfl) ?_
          clear H a; intro a H
          refine s_op H rfl rfl (by decide) (x_nilCheck H rfl rfl) ?_
          clear H a; intro a H
          refine s_op H rfl rfl (by decide) (x_fieldAddr H rfl rfl (fa158_2 _ _)) ?_
          clear H a; intro a H
          refine s_op H rfl rfl (by decide) (x_fieldAddr H rfl rfl (fa154_1 _ _ _)) ?_
          clear H a; intro a H
          refine s_op H rfl rfl (by decide) (x_load H rfl rfl (l_cell (v := .slice (some ⟨ag, ao, none⟩) (bools p.ack).length ac) Try.isAgg152 (D.blk.at_ (i := 3) (by rw [← hva]; rfl)))) ?_
          clear H a; intro a H
          refine s_op H rfl rfl (by decide) (x_move H rfl rfl) ?_
          clear H a; intro a H
          refine s_op H rfl rfl (by decide) (x_move H rfl rfl) ?_
          clear H a; intro a H
          refine s_op H rfl rfl (by decide) (x_nilCheck H rfl rfl) ?_
          clear H a; intro a H
          refine s_op H rfl rfl (by decide) (x_fieldAddr H rfl rfl (fa158_2 _ _)) ?_
          clear H a; intro a H
          refine s_op H rfl rfl (by decide) (x_fieldAddr H rfl rfl (fa154_1 _ _ _)) ?_
          clear H a; intro a H
          refine s_op H rfl rfl (by decide) (x_load H rfl rfl (l_cell (v := .slice (some ⟨ag, ao, none⟩) (bools p.ack).length ac) Try.isAgg152 (D.blk.at_ (i := 3) (by rw [← hva]; rfl)))) ?_
          clear H a; intro a H
          refine s_op H rfl rfl (by decide) (x_move H rfl rfl) ?_
          clear H a; intro a H
          refine s_op H rfl rfl (by decide) (x_indexAddr H rfl rfl rfl (i_sl (m := q) Try.underlying152 Try.sizeOf4 rfl (by omega))) ?_
          clear H a; intro a H
          refine s_op H rfl rfl (by decide) (x_load H rfl rfl (l_cell (v := .bool false) Try.isAgg4 (RA.cells q _ (by rw [bools_get _ _ (by omega), hgb])))) ?_
          clear H a; intro a H
          refine s_op H rfl rfl (by decide) (x_move H rfl rfl) ?_
          clear H a; intro a H
          refine s_opg H (wanted_true H rfl rfl rfl rfl) rfl (by decide) (x_move H rfl rfl) ?_
          clear H a; intro a H
          refine s_op H rfl rfl (by decide) (x_pickF H rfl rfl rfl) ?_
          clear H a; intro a H
          refine s_op H rfl rfl (by decide) (x_indexAddr H rfl rfl rfl (i_sl (m := q) Try.underlying152 Try.sizeOf4 rfl (by omega))) ?_
          clear H a; intro a H
          refine wpStill_nil ?_
          refine e_st H rfl rfl (x_store H rfl rfl rfl (st_cell rfl rfl Try.sizeOf4 (RA.froz _) (by rw [RA.cells q _ (bools_get _ _ (by omega))]; rfl))) ?_
          refine e_nil (hR.out _ _ ?_)
          clear hR R
          have D3 := D.ackSet hva q (by show q < ak.length; omega) (gb (m.take N) q)
          have E3 := ((Frm.refl [ag] w2).st ag (ao + q) (.bool (gb (m.take N) q)) (.inl (by simp))).ext E (fun x hx => by simp only [List.mem_singleton] at hx; rw [hx]; exact (RA.blk ag rfl).1)
          refine hK19 _ _ ?_
          clear hK19 K19
          refine e_region (fun R hR => ?_)
          refine e_op H rfl rfl (by decide) (x_binI H rfl rfl rfl (b_add (z := ((q + 1 : Nat) : Int)) (by rw [IntKind.wrap_i64]; omega))) ?_
          clear H a; intro a H
          refine e_op H rfl rfl (by decide) (x_move H rfl rfl) ?_
          clear H a; intro a H
          refine e_nil (hR.out _ _ ?_)
          clear hR R
          refine ⟨N - (q + 1), by omega, q + 1, ak.set q (gb (m.take N) q), by omega, rfl, H.sub ⟨rfl, rfl, rfl, rfl, rfl, trivial⟩, D3, by rw [List.length_set]; exact hakl, fun k => ?_, E3⟩
          have h0 := G q
          rw [if_neg (by omega), hgb] at h0
          rw [gb_setb _ _ _ _ (by omega)]
          by_cases hkq : k = q
          · rw [if_pos hkq, if_pos (by omega), hkq, ← h0]; simp
          · rw [if_neg hkq, G k]
            by_cases hlt2 : k < q
            · rw [if_pos hlt2, if_pos (by omega)]
            · rw [if_neg hlt2, if_neg (by omega)]
        · skip
          skip
          refine wp_seq_k (fun K21 hK21 => ?_)
          refine e_region (fun R hR => ?_)
          refine e_op H rfl rfl (by decide) (x_binI H rfl rfl rfl (b_lss (b := true) (dec_t (by omega)))) ?_
          clear H a; intro a H
          refine e_nil (hR.out _ _ ?_)
          clear hR R
          refine hK21 _ _ ?_
          clear hK21 K21
          refine wp_seq_k (fun K22 hK22 => ?_)
          refine c_true H rfl ?_
          refine wp_skip ?_
          refine hK22 _ _ ?_
          clear hK22 K22
          refine wp_seq_k (fun K23 hK23 => ?_)
          refine wp_block ?_
          refine wp_seq_k (fun K24 hK24 => ?_)
          refine e_region (fun R hR => ?_)
          refine e_op H rfl rfl (by decide) (x_move H rfl rfl) ?_
          clear H a; intro a H
          refine e_op H rfl rfl (by decide) (x_indexAddr H rfl rfl rfl (i_sl (m := q) Try.underlying152 Try.sizeOf4 rfl (by omega))) ?_
          clear H a; intro a H
          refine e_op H rfl rfl (by decide) (x_load H rfl rfl (l_cell Try.isAgg4 (RMq.cells q _ (bools_get _ _ (by omega))))) ?_
          clear H a; intro a H
          refine e_op H rfl rfl (by decide) (x_assign H rfl rfl) ?_
          clear H a; intro a H
          refine e_op H rfl rfl (by decide) (x_assign H rfl rfl) ?_
          clear H a; intro a H
          refine e_nil (hR.out _ _ ?_)
          clear hR R
          refine hK24 _ _ ?_
          clear hK24 K24
          refine e_tail 18 (by kernel_rfl) (by kernel_rfl) (fun R hR => ?_)
          simp only [List.take_succ_cons, List.take_zero, List.drop_succ_cons, List.drop_zero]
          obtain ⟨w2, hw2⟩ : ∃ x_, x_ = w.drew := ⟨_, rfl⟩
          have Ew2 : Ext w w2 := by rw [hw2]; exact (Ext.refl _).dr
          replace D := D.ext Ew2
          replace E := E.tr Ew2
          have RA : Rw w2 wB.heap.size 4 (.slice (some ⟨ag, ao, none⟩) (bools p.ack).length ac) (bools ak) := hva ▸ D.ha
          rw [← hw2]
          clear hw2
          refine s_op H rfl rfl (by decide) (x_move H rfl rfl) ?_
          clear H a; intro a H
          refine s_op H rfl rfl (by decide) (x_nilCheck H rfl rfl) ?_
          clear H a; intro a H
          refine s_op H rfl rfl (by decide) (x_fieldAddr H rfl rfl (fa158_2 _ _)) ?_
          clear H a; intro a H
          refine s_op H rfl rfl (by decide) (x_fieldAddr H rfl rfl (fa154_1 _ _ _)) ?_
          clear H a; intro a H
          refine s_op H rfl rfl (by decide) (x_load H rfl rfl (l_cell (v := .slice (some ⟨ag, ao, none⟩) (bools p.ack).length ac) Try.isAgg152 (D.blk.at_ (i := 3) (by rw [← hva]; rfl)))) ?_
          clear H a; intro a H
          refine s_op H rfl rfl (by decide) (x_move H rfl rfl) ?_
          clear H a; intro a H
          refine s_op H rfl rfl (by decide) (x_move H rfl rfl) ?_
          clear H a; intro a H
          refine s_op H rfl rfl (by decide) (x_nilCheck H rfl rfl) ?_
          clear H a; intro a H
          refine s_op H rfl rfl (by decide) (x_fieldAddr H rfl rfl (fa158_2 _ _)) ?_
          clear H a; intro a H
          refine s_op H rfl rfl (by decide) (x_fieldAddr H rfl rfl (fa154_1 _ _ _)) ?_
          clear H a; intro a H
          refine s_op H rfl rfl (by decide) (x_load H rfl rfl (l_cell (v := .slice (some ⟨ag, ao, none⟩) (bools p.ack).length ac) Try.isAgg152 (D.blk.at_ (i := 3) (by rw [← hva]; rfl)))) ?_
          clear H a; intro a H
          refine s_op H rfl rfl (by decide) (x_move H rfl rfl) ?_
          clear H a; intro a H
          refine s_op H rfl rfl (by decide) (x_indexAddr H rfl rfl rfl (i_sl (m := q) Try.underlying152 Try.sizeOf4 rfl (by omega))) ?_
          clear H a; intro a H
          refine s_op H rfl rfl (by decide) (x_load H rfl rfl (l_cell (v := .bool true) Try.isAgg4 (RA.cells q _ (by rw [bools_get _ _ (by omega), hgb])))) ?_
          clear H a; intro a H
          refine s_op H rfl rfl (by decide) (x_move H rfl rfl) ?_
          clear H a; intro a H
          refine s_skip H (wanted_false H rfl rfl rfl rfl) rfl (by decide) ?_
          clear H a; intro a H
          refine s_op H rfl rfl (by decide) (x_pickT H rfl rfl rfl) ?_
          clear H a; intro a H
          refine s_op H rfl rfl (by decide) (x_indexAddr H rfl rfl rfl (i_sl (m := q) Try.underlying152 Try.sizeOf4 rfl (by omega))) ?_
          clear H a; intro a H
          refine wpStill_nil ?_
          refine e_st H rfl rfl (x_store H rfl rfl rfl (st_cell rfl rfl Try.sizeOf4 (RA.froz _) (by rw [RA.cells q _ (bools_get _ _ (by omega))]; rfl))) ?_
          refine e_nil (hR.out _ _ ?_)
          clear hR R
          have D3 := D.ackSet hva q (by show q < ak.length; omega) true
          have E3 := ((Frm.refl [ag] w2).st ag (ao + q) (.bool true) (.inl (by simp))).ext E (fun x hx => by simp only [List.mem_singleton] at hx; rw [hx]; exact (RA.blk ag rfl).1)
          refine hK23 _ _ ?_
          clear hK23 K23
          refine e_region (fun R hR => ?_)
          refine e_op H rfl rfl (by decide) (x_binI H rfl rfl rfl (b_add (z := ((q + 1 : Nat) : Int)) (by rw [IntKind.wrap_i64]; omega))) ?_
          clear H a; intro a H
          refine e_op H rfl rfl (by decide) (x_move H rfl rfl) ?_
          clear H a; intro a H
          refine e_nil (hR.out _ _ ?_)
          clear hR R
          refine ⟨N - (q + 1), by omega, q + 1, ak.set q true, by omega, rfl, H.sub ⟨rfl, rfl, rfl, rfl, rfl, trivial⟩, D3, by rw [List.length_set]; exact hakl, fun k => ?_, E3⟩
          have h0 := G q
          rw [if_neg (by omega), hgb] at h0
          rw [gb_setb _ _ _ _ (by omega)]
          by_cases hkq : k = q
          · rw [if_pos hkq, if_pos (by omega), hkq, ← h0]; simp
          · rw [if_neg hkq, G k]
            by_cases hlt2 : k < q
            · rw [if_pos hlt2, if_pos (by omega)]
            · rw [if_neg hlt2, if_neg (by omega)]
        · skip
          skip
          refine wp_seq_k (fun K25 hK25 => ?_)
          refine e_region (fun R hR => ?_)
          refine e_op H rfl rfl (by decide) (x_binI H rfl rfl rfl (b_lss (b := false) (dec_f (by omega)))) ?_
          clear H a; intro a H
          refine e_nil (hR.out _ _ ?_)
          clear hR R
          refine hK25 _ _ ?_
          clear hK25 K25
          refine wp_seq_k (fun K26 hK26 => ?_)
          refine c_false H rfl ?_
          refine wp_exit ?_
          refine t_exit ?_
          refine t_exit ?_
          refine b_hit ?_
          clear hK26 K26
          refine hK15 _ _ ?_
          clear hK15 K15
          refine wp_seq_k (fun K27 hK27 => ?_)
          refine e_region (fun R hR => ?_)
          refine e_op H rfl rfl (by decide) (x_move H rfl rfl) ?_
          clear H a; intro a H
          refine e_op H rfl rfl (by decide) (x_binI H rfl rfl rfl (b_eql (b := true) (rfl))) ?_
          clear H a; intro a H
          refine e_op H rfl rfl (by decide) (x_assign H rfl rfl) ?_
          clear H a; intro a H
          refine e_nil (hR.out _ _ ?_)
          clear hR R
          refine hK27 _ _ ?_
          clear hK27 K27
          refine wp_ret ?_
          refine b_ret ?_
          refine t_ret ?_
          exact ret1 H rfl rfl ⟨rfl, V, _, D, KK.heard s9 m hmem ak g2 g3' g4 g5 (by omega) (fun k hk => by rw [G k, if_pos (by omega), hN]), E⟩
end Go.Proofs.Ytknllmcpogoeoaa
