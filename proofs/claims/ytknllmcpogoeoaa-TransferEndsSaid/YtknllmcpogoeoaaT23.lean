/- One move of a play, walked: a packet comes in. -/
import Derived.Test.YtknllmcpogoeoaaT22
namespace Go.Proofs.Ytknllmcpogoeoaa
open Go.RowKit
set_option linter.unusedVariables false
set_option linter.unusedSimpArgs false
set_option maxRecDepth 100000
theorem bs37z (w : World) : (Instr.buildSlice 37 0 #[]).run Try.prog w = .ok (.slice (some ⟨w.heap.size, 0, none⟩) 0 0) (w.alloc (.cells #[] 22)) := by kernel_rfl
theorem bs155z (w : World) : (Instr.buildSlice 155 0 #[]).run Try.prog w = .ok (.slice (some ⟨w.heap.size, 0, none⟩) 0 0) (w.alloc (.cells #[] 3)) := by kernel_rfl
theorem Els.tk {w : World} {B : Nat} {xs : List Value} {ls : List (List UInt8)} (h : Els w B xs ls) (i : Nat) : Els w B (xs.take i) (ls.take i) :=
  ⟨by rw [List.length_take, List.length_take, h.len], fun j l hl => by
    rw [List.getElem?_take] at hl ⊢
    split at hl
    · rename_i hj
      rw [if_pos hj]
      exact h.at_ j l hl
    · cases hl⟩
theorem Els.dp {w : World} {B : Nat} {xs : List Value} {ls : List (List UInt8)} (h : Els w B xs ls) (i : Nat) : Els w B (xs.drop i) (ls.drop i) :=
  ⟨by rw [List.length_drop, List.length_drop, h.len], fun j l hl => by
    rw [List.getElem?_drop] at hl ⊢
    exact h.at_ _ l hl⟩
/-- a row that was laid anew: where it lies -/
theorem own_two {s : Nat} {v0 v1 v2 : Value} {a b : Nat} (h0 : v0.ownBlock = some s) (h1 : v1.ownBlock = v0.ownBlock ∨ ∃ k, v1.ownBlock = some k ∧ a ≤ k) (h2 : v2.ownBlock = v1.ownBlock ∨ ∃ k, v2.ownBlock = some k ∧ b ≤ k) (ha : s ≤ a) (hb : s ≤ b) : ∃ k, v2.ownBlock = some k ∧ s ≤ k := by
  rcases h2 with h2 | ⟨k, h2, h3⟩
  · rcases h1 with h1 | ⟨k, h1, h3⟩
    · exact ⟨s, by rw [h2, h1, h0], Nat.le_refl _⟩
    · exact ⟨k, by rw [h2, h1], by omega⟩
  · exact ⟨k, h2, by omega⟩
theorem do_way (wB : World) (gw gs gr id : Nat) (file : List UInt8) (V : Wv) (p : Wp) (kd at_ bz : Nat) (st : Bool) (w0 : World) (D : Wd w0 wB.heap.size gw gs gr V p) (KK : Wok p id file) (E0 : Ext wB w0) (hkd : kd ≤ 255) (hat : at_ ≤ 65535) (hbz : bz ≤ 4294967295)
    (hK : 3 ≤ kd % 10 ∧ kd % 10 < 7) : Calls Try.prog 102 #[.pointer (some ⟨gw, 0, none⟩), .agg #[.int .u8 (kd : Int), .int .u16 (at_ : Int), .bool st, .int .u32 (bz : Int)]] w0 (DoPost wB gw gs gr id file) := by
  obtain ⟨hK1, hK2⟩ := hK
  have hfll := KK.fll
  have hid := KK.idl
  have hps0 := KK.sid
  have hpf0 := KK.sfile
  have hcl := chunks_le hfll
  have hfle := KK.fle
  have hxf : V.xf.length = p.fwd.length := by rw [D.ef.len, List.length_map]
  have hckl : p.cks.length = p.fwd.length := by rw [KK.cks]
  have hil := ints_len p.cks
  rcases Nat.eq_zero_or_pos p.fwd.length with he | hne
  · skip
    obtain ⟨fa, fc, hvf, _⟩ := D.rf.shape
    refine calls_has (args := [.pointer (some ⟨gw, 0, none⟩), .agg #[.int .u8 (kd : Int), .int .u16 (at_ : Int), .bool st, .int .u32 (bz : Int)]]) Try.func102 rfl Try.ntmps102 (Nat.le_of_ble_eq_true rfl) (fun a H => ?_)
    simp only [argl, Nat.reduceAdd] at H
    refine wp_seq_k (fun K1 hK1 => ?_)
    refine e_region (fun R hR => ?_)
    refine e_op H rfl rfl (by decide) (x_box H rfl rfl bx_new) ?_
    clear H a; intro a H
    have M0 := Blk.new w0 168 [.int .u8 (kd : Int), .int .u16 (at_ : Int), .bool st, .int .u32 (bz : Int)]
    have E1 := E0.al (.cells #[.int .u8 (kd : Int), .int .u16 (at_ : Int), .bool st, .int .u32 (bz : Int)] 168)
    have D1 := D.ext ((Ext.refl w0).al (.cells #[.int .u8 (kd : Int), .int .u16 (at_ : Int), .bool st, .int .u32 (bz : Int)] 168))
    obtain ⟨g3, hg3⟩ : ∃ g, g = w0.heap.size := ⟨_, rfl⟩
    rw [← hg3] at H M0
    generalize w0.alloc (.cells #[.int .u8 (kd : Int), .int .u16 (at_ : Int), .bool st, .int .u32 (bz : Int)] 168) = w1 at *
    clear D
    have D := D1
    clear D1
    refine e_op H rfl rfl (by decide) (x_assign H rfl rfl) ?_
    clear H a; intro a H
    refine e_nil (hR.out _ _ ?_)
    clear hR R
    refine hK1 _ _ ?_
    clear hK1 K1
    refine wp_seq_k (fun K2 hK2 => ?_)
    refine wp_seq_k (fun K3 hK3 => ?_)
    refine e_region (fun R hR => ?_)
    refine e_op H rfl rfl (by decide) (x_fieldAddr H rfl rfl (fa168_0 _ _)) ?_
    clear H a; intro a H
    refine e_op H rfl rfl (by decide) (x_load H rfl rfl (l_cell Try.isAgg5 (M0.at_ (i := 0) rfl))) ?_
    clear H a; intro a H
    refine e_op H rfl rfl (by decide) (x_binI H rfl rfl rfl (b_rem (z := ((kd % 10 : Nat) : Int)) (by decide) (by rw [Int.tmod_eq_emod_of_nonneg (by omega)]; omega))) ?_
    clear H a; intro a H
    refine e_op H rfl rfl (by decide) (x_assign H rfl rfl) ?_
    clear H a; intro a H
    refine e_nil (hR.out _ _ ?_)
    clear hR R
    refine hK3 _ _ ?_
    clear hK3 K3
    refine wp_block ?_
    refine wp_seq_k (fun K4 hK4 => ?_)
    refine e_region (fun R hR => ?_)
    refine e_op H rfl rfl (by decide) (x_move H rfl rfl) ?_
    clear H a; intro a H
    refine e_op H rfl rfl (by decide) (x_binI H rfl rfl rfl (b_lss (b := false) (dec_f (by omega)))) ?_
    clear H a; intro a H
    refine e_op H rfl rfl (by decide) (x_assign H rfl rfl) ?_
    clear H a; intro a H
    refine e_nil (hR.out _ _ ?_)
    clear hR R
    refine hK4 _ _ ?_
    clear hK4 K4
    refine c_false H rfl ?_
    refine wp_seq_k (fun K5 hK5 => ?_)
    refine e_region (fun R hR => ?_)
    refine e_op H rfl rfl (by decide) (x_move H rfl rfl) ?_
    clear H a; intro a H
    refine e_op H rfl rfl (by decide) (x_binI H rfl rfl rfl (b_lss (b := true) (dec_t (by omega)))) ?_
    clear H a; intro a H
    refine e_op H rfl rfl (by decide) (x_assign H rfl rfl) ?_
    clear H a; intro a H
    refine e_nil (hR.out _ _ ?_)
    clear hR R
    refine hK5 _ _ ?_
    clear hK5 K5
    refine c_true H rfl ?_
    refine wp_seq_k (fun K6 hK6 => ?_)
    refine wp_seq_k (fun K7 hK7 => ?_)
    refine e_region (fun R hR => ?_)
    refine e_op H rfl rfl (by decide) (x_move H rfl rfl) ?_
    clear H a; intro a H
    refine e_op H rfl rfl (by decide) (x_nilCheck H rfl rfl) ?_
    clear H a; intro a H
    refine e_op H rfl rfl (by decide) (x_fieldAddr H rfl rfl (fa158_4 _ _)) ?_
    clear H a; intro a H
    refine e_op H rfl rfl (by decide) (x_load H rfl rfl (l_cell (v := .slice fa V.xf.length fc) Try.isAgg37 (D.blk.at_ (i := 5) (by rw [← hvf]; rfl)))) ?_
    clear H a; intro a H
    refine e_op H rfl rfl (by decide) (x_builtin H rfl rfl (fun cs => len_sl Try.underlying37)) ?_
    clear H a; intro a H
    refine e_op H rfl rfl (by decide) (x_binI H rfl rfl rfl (b_eql (b := true) (beq_t (by omega)))) ?_
    clear H a; intro a H
    refine e_nil (hR.out _ _ ?_)
    clear hR R
    refine hK7 _ _ ?_
    clear hK7 K7
    refine c_true H rfl ?_
    refine wp_seq_k (fun K8 hK8 => ?_)
    refine e_region (fun R hR => ?_)
    refine e_op H rfl rfl (by decide) (x_assign H rfl rfl) ?_
    clear H a; intro a H
    refine e_nil (hR.out _ _ ?_)
    clear hR R
    refine hK8 _ _ ?_
    clear hK8 K8
    refine wp_ret ?_
    refine t_ret ?_
    refine b_ret ?_
    refine t_ret ?_
    exact ret1 H rfl rfl ⟨rfl, V, p, D, KK, E1⟩
  · skip
    have hcap := D.rf.shape
    obtain ⟨fg, fo, fc, hvf⟩ := D.rf.pos (by omega)
    have hfc : V.xf.length ≤ fc := by
      obtain ⟨a, c, h1, h2, _⟩ := hcap
      rw [hvf] at h1
      simp only [Value.slice.injEq] at h1
      omega
    have hcap2 := D.rc.shape
    obtain ⟨cg, co, cc, hvc⟩ := D.rc.pos (by omega)
    have hcc : p.cks.length ≤ cc := by
      obtain ⟨a, c, h1, h2, _⟩ := hcap2
      rw [hvc] at h1
      simp only [Value.slice.injEq] at h1
      omega
    clear hcap hcap2
    obtain ⟨i, hi⟩ : ∃ i, i = at_ % V.xf.length := ⟨_, rfl⟩
    have hie : ((at_ : Nat) : Int) % ((V.xf.length : Nat) : Int) = (i : Int) := by rw [hi]; exact (Int.natCast_emod _ _).symm
    have hil2 : i < p.fwd.length := by rw [hi, hxf]; exact Nat.mod_lt _ hne
    clear hi
    obtain ⟨k, hk⟩ : ∃ k, p.fwd[i]? = some k := ⟨p.fwd[i], List.getElem?_eq_getElem hil2⟩
    have hkc : k < chunksT file.length := KK.flt k (List.mem_of_getElem? hk)
    have hfk : (p.fwd.map (pkt p.s.id p.s.file))[i]? = some (pkt p.s.id p.s.file k) := by rw [List.getElem?_map, hk]; rfl
    have hck : (ints p.cks)[i]? = some (.int .i64 (k : Int)) := by rw [KK.cks]; unfold ints; rw [List.getElem?_map, hk]; rfl
    have hpl := pkt_len p.s.id p.s.file k (by omega) (by rw [hpf0]; exact hfll) (by omega)
    by_cases h6 : kd % 10 = 6
    · skip
      refine calls_has (args := [.pointer (some ⟨gw, 0, none⟩), .agg #[.int .u8 (kd : Int), .int .u16 (at_ : Int), .bool st, .int .u32 (bz : Int)]]) Try.func102 rfl Try.ntmps102 (Nat.le_of_ble_eq_true rfl) (fun a H => ?_)
      simp only [argl, Nat.reduceAdd] at H
      refine wp_seq_k (fun K1 hK1 => ?_)
      refine e_region (fun R hR => ?_)
      refine e_op H rfl rfl (by decide) (x_box H rfl rfl bx_new) ?_
      clear H a; intro a H
      have M0 := Blk.new w0 168 [.int .u8 (kd : Int), .int .u16 (at_ : Int), .bool st, .int .u32 (bz : Int)]
      have E1 := E0.al (.cells #[.int .u8 (kd : Int), .int .u16 (at_ : Int), .bool st, .int .u32 (bz : Int)] 168)
      have D1 := D.ext ((Ext.refl w0).al (.cells #[.int .u8 (kd : Int), .int .u16 (at_ : Int), .bool st, .int .u32 (bz : Int)] 168))
      obtain ⟨g3, hg3⟩ : ∃ g, g = w0.heap.size := ⟨_, rfl⟩
      rw [← hg3] at H M0
      generalize w0.alloc (.cells #[.int .u8 (kd : Int), .int .u16 (at_ : Int), .bool st, .int .u32 (bz : Int)] 168) = w1 at *
      clear D
      have D := D1
      clear D1
      refine e_op H rfl rfl (by decide) (x_assign H rfl rfl) ?_
      clear H a; intro a H
      refine e_nil (hR.out _ _ ?_)
      clear hR R
      refine hK1 _ _ ?_
      clear hK1 K1
      refine wp_seq_k (fun K2 hK2 => ?_)
      refine wp_seq_k (fun K3 hK3 => ?_)
      refine e_region (fun R hR => ?_)
      refine e_op H rfl rfl (by decide) (x_fieldAddr H rfl rfl (fa168_0 _ _)) ?_
      clear H a; intro a H
      refine e_op H rfl rfl (by decide) (x_load H rfl rfl (l_cell Try.isAgg5 (M0.at_ (i := 0) rfl))) ?_
      clear H a; intro a H
      refine e_op H rfl rfl (by decide) (x_binI H rfl rfl rfl (b_rem (z := ((kd % 10 : Nat) : Int)) (by decide) (by rw [Int.tmod_eq_emod_of_nonneg (by omega)]; omega))) ?_
      clear H a; intro a H
      refine e_op H rfl rfl (by decide) (x_assign H rfl rfl) ?_
      clear H a; intro a H
      refine e_nil (hR.out _ _ ?_)
      clear hR R
      refine hK3 _ _ ?_
      clear hK3 K3
      refine wp_block ?_
      refine wp_seq_k (fun K4 hK4 => ?_)
      refine e_region (fun R hR => ?_)
      refine e_op H rfl rfl (by decide) (x_move H rfl rfl) ?_
      clear H a; intro a H
      refine e_op H rfl rfl (by decide) (x_binI H rfl rfl rfl (b_lss (b := false) (dec_f (by omega)))) ?_
      clear H a; intro a H
      refine e_op H rfl rfl (by decide) (x_assign H rfl rfl) ?_
      clear H a; intro a H
      refine e_nil (hR.out _ _ ?_)
      clear hR R
      refine hK4 _ _ ?_
      clear hK4 K4
      refine c_false H rfl ?_
      refine wp_seq_k (fun K5 hK5 => ?_)
      refine e_region (fun R hR => ?_)
      refine e_op H rfl rfl (by decide) (x_move H rfl rfl) ?_
      clear H a; intro a H
      refine e_op H rfl rfl (by decide) (x_binI H rfl rfl rfl (b_lss (b := true) (dec_t (by omega)))) ?_
      clear H a; intro a H
      refine e_op H rfl rfl (by decide) (x_assign H rfl rfl) ?_
      clear H a; intro a H
      refine e_nil (hR.out _ _ ?_)
      clear hR R
      refine hK5 _ _ ?_
      clear hK5 K5
      refine c_true H rfl ?_
      refine wp_seq_k (fun K6 hK6 => ?_)
      refine wp_seq_k (fun K7 hK7 => ?_)
      refine e_region (fun R hR => ?_)
      refine e_op H rfl rfl (by decide) (x_move H rfl rfl) ?_
      clear H a; intro a H
      refine e_op H rfl rfl (by decide) (x_nilCheck H rfl rfl) ?_
      clear H a; intro a H
      refine e_op H rfl rfl (by decide) (x_fieldAddr H rfl rfl (fa158_4 _ _)) ?_
      clear H a; intro a H
      refine e_op H rfl rfl (by decide) (x_load H rfl rfl (l_cell (v := .slice (some ⟨fg, fo, none⟩) V.xf.length fc) Try.isAgg37 (D.blk.at_ (i := 5) (by rw [← hvf]; rfl)))) ?_
      clear H a; intro a H
      refine e_op H rfl rfl (by decide) (x_builtin H rfl rfl (fun cs => len_sl Try.underlying37)) ?_
      clear H a; intro a H
      refine e_op H rfl rfl (by decide) (x_binI H rfl rfl rfl (b_eql (b := false) (beq_f (by omega)))) ?_
      clear H a; intro a H
      refine e_nil (hR.out _ _ ?_)
      clear hR R
      refine hK7 _ _ ?_
      clear hK7 K7
      refine c_false H rfl ?_
      refine wp_skip ?_
      refine hK6 _ _ ?_
      clear hK6 K6
      refine wp_seq_k (fun K8 hK8 => ?_)
      refine e_quiet (by kernel_rfl) (by kernel_rfl) (fun R hR => ?_)
      obtain ⟨w2, hw2⟩ : ∃ x_, x_ = w1.drew := ⟨_, rfl⟩
      have Ew2 : Ext w1 w2 := by rw [hw2]; exact (Ext.refl _).dr
      replace D := D.ext Ew2
      replace E1 := E1.tr Ew2
      replace M0 := M0.ext Ew2
      rw [← hw2]
      clear hw2
      refine s_op H rfl rfl (by decide) (x_fieldAddr H rfl rfl (fa168_1 _ _)) ?_
      clear H a; intro a H
      refine s_op H rfl rfl (by decide) (x_load H rfl rfl (l_cell Try.isAgg47 (M0.at_ (i := 1) rfl))) ?_
      clear H a; intro a H
      refine s_op H rfl rfl (by decide) (x_conv H rfl rfl (c_int (z := ((at_ : Nat) : Int)) Try.underlying47 Try.underlying3 (by rw [IntKind.wrap_i64]; omega))) ?_
      clear H a; intro a H
      refine s_op H rfl rfl (by decide) (x_move H rfl rfl) ?_
      clear H a; intro a H
      refine s_op H rfl rfl (by decide) (x_nilCheck H rfl rfl) ?_
      clear H a; intro a H
      refine s_op H rfl rfl (by decide) (x_fieldAddr H rfl rfl (fa158_4 _ _)) ?_
      clear H a; intro a H
      refine s_op H rfl rfl (by decide) (x_load H rfl rfl (l_cell (v := .slice (some ⟨fg, fo, none⟩) V.xf.length fc) Try.isAgg37 (D.blk.at_ (i := 5) (by rw [← hvf]; rfl)))) ?_
      clear H a; intro a H
      refine s_op H rfl rfl (by decide) (x_builtin H rfl rfl (fun cs => len_sl Try.underlying37)) ?_
      clear H a; intro a H
      refine s_op H rfl rfl (by decide) (x_binI H rfl rfl rfl (b_rem (z := (i : Int)) (by omega) (by rw [Int.tmod_eq_emod_of_nonneg (by omega)]; exact hie))) ?_
      clear H a; intro a H
      refine s_op H rfl rfl (by decide) (x_assign H rfl rfl) ?_
      clear H a; intro a H
      refine wpStill_nil (hR.out _ _ ?_)
      clear hR R
      refine hK8 _ _ ?_
      clear hK8 K8
      refine wp_seq_k (fun K9 hK9 => ?_)
      refine e_quiet (by kernel_rfl) (by kernel_rfl) (fun R hR => ?_)
      obtain ⟨w3, hw3⟩ : ∃ x_, x_ = w2.drew := ⟨_, rfl⟩
      have Ew3 : Ext w2 w3 := by rw [hw3]; exact (Ext.refl _).dr
      replace D := D.ext Ew3
      replace E1 := E1.tr Ew3
      replace M0 := M0.ext Ew3
      have RF : Rw w3 wB.heap.size 22 (.slice (some ⟨fg, fo, none⟩) V.xf.length fc) V.xf := hvf ▸ D.rf
      have RC : Rw w3 wB.heap.size 3 (.slice (some ⟨cg, co, none⟩) (ints p.cks).length cc) (ints p.cks) := hvc ▸ D.rc
      obtain ⟨pa, pc, hpx, hOp⟩ := D.ef.at_ i _ hfk
      rw [← hw3]
      clear hw3
      refine s_op H rfl rfl (by decide) (x_move H rfl rfl) ?_
      clear H a; intro a H
      refine s_op H rfl rfl (by decide) (x_nilCheck H rfl rfl) ?_
      clear H a; intro a H
      refine s_op H rfl rfl (by decide) (x_fieldAddr H rfl rfl (fa158_4 _ _)) ?_
      clear H a; intro a H
      refine s_op H rfl rfl (by decide) (x_load H rfl rfl (l_cell (v := .slice (some ⟨fg, fo, none⟩) V.xf.length fc) Try.isAgg37 (D.blk.at_ (i := 5) (by rw [← hvf]; rfl)))) ?_
      clear H a; intro a H
      refine s_op H rfl rfl (by decide) (x_move H rfl rfl) ?_
      clear H a; intro a H
      refine s_op H rfl rfl (by decide) (x_indexAddr H rfl rfl rfl (i_sl (m := i) Try.underlying37 Try.sizeOf22 rfl (by omega))) ?_
      clear H a; intro a H
      refine s_op H rfl rfl (by decide) (x_load H rfl rfl (l_cell Try.isAgg22 (RF.cells i _ hpx))) ?_
      clear H a; intro a H
      refine s_op H rfl rfl (by decide) (x_move H rfl rfl) ?_
      clear H a; intro a H
      refine s_op H rfl rfl (by decide) (x_nilCheck H rfl rfl) ?_
      clear H a; intro a H
      refine s_op H rfl rfl (by decide) (x_fieldAddr H rfl rfl (fa158_5 _ _)) ?_
      clear H a; intro a H
      refine s_op H rfl rfl (by decide) (x_load H rfl rfl (l_cell (v := .slice (some ⟨cg, co, none⟩) (ints p.cks).length cc) Try.isAgg155 (D.blk.at_ (i := 6) (by rw [← hvc]; rfl)))) ?_
      clear H a; intro a H
      refine s_op H rfl rfl (by decide) (x_move H rfl rfl) ?_
      clear H a; intro a H
      refine s_op H rfl rfl (by decide) (x_indexAddr H rfl rfl rfl (i_sl (m := i) Try.underlying155 Try.sizeOf3 rfl (by rw [ints_len]; omega))) ?_
      clear H a; intro a H
      refine s_op H rfl rfl (by decide) (x_load H rfl rfl (l_cell Try.isAgg3 (RC.cells i _ hck))) ?_
      clear H a; intro a H
      refine s_op H rfl rfl (by decide) (x_assign H rfl rfl) ?_
      clear H a; intro a H
      refine s_op H rfl rfl (by decide) (x_assign H rfl rfl) ?_
      clear H a; intro a H
      refine wpStill_nil (hR.out _ _ ?_)
      clear hR R
      refine hK9 _ _ ?_
      clear hK9 K9
      refine wp_seq_k (fun K10 hK10 => ?_)
      refine wp_seq_k (fun K11 hK11 => ?_)
      refine Code.wp_mono (Q := fun e a w => e = Exit.normal ∧ Has a 309 [(0, .pointer (some ⟨gw, 0, none⟩)), (3, .pointer (some ⟨g3, 0, none⟩)), (5, .int .u8 ((kd % 10 : Nat) : Int)), (8, .int .i64 (i : Int)), (9, .slice pa (pkt p.s.id p.s.file k).length pc), (10, .int .i64 (k : Int)), (192, .bool (!st || decide (kd % 10 = 6)))] ∧ w = w3) (fun e a w hM => ?_) ?_
      · skip
        clear H
        obtain ⟨rfl, H, hww⟩ := hM
        rw [hww]
        clear hww w
        refine hK11 _ _ ?_
        clear hK11 K11
        refine Code.wp_mono (Q := fun e a w => e = Exit.normal ∧ Has a 309 [(0, .pointer (some ⟨gw, 0, none⟩)), (3, .pointer (some ⟨g3, 0, none⟩)), (5, .int .u8 ((kd % 10 : Nat) : Int)), (9, .slice pa (pkt p.s.id p.s.file k).length pc), (10, .int .i64 (k : Int))] ∧ ∃ V1 p1, Wd w wB.heap.size gw gs gr V1 p1 ∧ Wok p1 id file ∧ V1.vr = V.vr ∧ p1.s = p.s ∧ Ow w wB.heap.size pa (pkt p.s.id p.s.file k).length pc (pkt p.s.id p.s.file k) ∧ Blk w g3 168 [.int .u8 (kd : Int), .int .u16 (at_ : Int), .bool st, .int .u32 (bz : Int)] ∧ Ext wB w) (fun e a w hM => ?_) ?_
        · skip
          clear H D hOp M0 E1 RF RC
          obtain ⟨rfl, H, V1, p1, D, K1, hvr, hps, hOp, M0, E1⟩ := hM
          refine hK10 _ _ ?_
          clear hK10 K10
          refine wp_seq_k (fun K12 hK12 => ?_)
          refine wp_seq_k (fun K13 hK13 => ?_)
          refine e_region (fun R hR => ?_)
          refine e_op H rfl rfl (by decide) (x_move H rfl rfl) ?_
          clear H a; intro a H
          refine e_op H rfl rfl (by decide) (x_binI H rfl rfl rfl (b_eql (b := true) (beq_t (by omega)))) ?_
          clear H a; intro a H
          refine e_nil (hR.out _ _ ?_)
          clear hR R
          refine hK13 _ _ ?_
          clear hK13 K13
          refine c_true H rfl ?_
          refine wp_seq_k (fun K14 hK14 => ?_)
          refine e_region (fun R hR => ?_)
          refine e_op H rfl rfl (by decide) (x_assign H rfl rfl) ?_
          clear H a; intro a H
          refine e_nil (hR.out _ _ ?_)
          clear hR R
          refine hK14 _ _ ?_
          clear hK14 K14
          refine wp_ret ?_
          refine t_ret ?_
          refine b_ret ?_
          refine t_ret ?_
          exact ret1 H rfl rfl ⟨rfl, V1, p1, D, K1, E1⟩
        · skip
          rcases hct : (!st || decide (kd % 10 = 6)) with _ | _
          · skip
            rw [hct] at H
            refine c_false H rfl ?_
            refine wp_skip ?_
            exact ⟨rfl, H.sub ⟨rfl, rfl, rfl, rfl, rfl, trivial⟩, V, p, D, KK, rfl, rfl, hOp, M0, E1⟩
          · skip
            rw [hct] at H
            refine c_true H rfl ?_
            refine wp_seq_k (fun K15 hK15 => ?_)
            obtain ⟨w4, hw4⟩ : ∃ x_, x_ = w3.drew := ⟨_, rfl⟩
            have Ew4 : Ext w3 w4 := by rw [hw4]; exact (Ext.refl _).dr
            have D4 := D.ext Ew4
            have E4 := E1.tr Ew4
            have M4 := M0.ext Ew4
            have Op4 := hOp.ext_ Ew4
            have Qf : Rw w4 wB.heap.size 22 (.slice (some ⟨fg, fo, none⟩) V.xf.length fc) V.xf := RF.ext Ew4
            have onef := D4.ef.cells1
            refine y_start (fun w' => Blk w' gw 158 (wCells gs gr V)) 19 (by kernel_rfl) (fun R hR => ?_)
            rw [← hw4]
            refine y_take 0 H rfl (wanted_none rfl) rfl (by decide) (by kernel_rfl) (by kernel_rfl) (by kernel_rfl) rfl (by kernel_rfl) (by decide) D4.blk (fun w' hSw => (x_move H rfl rfl)) ?_
            clear H a; intro a H
            refine y_take 2 H rfl (wanted_none rfl) rfl (by decide) (by kernel_rfl) (by kernel_rfl) (by kernel_rfl) rfl (by kernel_rfl) (by decide) D4.blk (fun w' hSw => (x_move H rfl rfl)) ?_
            clear H a; intro a H
            refine y_take 3 H rfl (wanted_none rfl) rfl (by decide) (by kernel_rfl) (by kernel_rfl) (by kernel_rfl) rfl (by kernel_rfl) (by decide) D4.blk (fun w' hSw => (x_nilCheck H rfl rfl)) ?_
            clear H a; intro a H
            refine y_take 4 H rfl (wanted_none rfl) rfl (by decide) (by kernel_rfl) (by kernel_rfl) (by kernel_rfl) rfl (by kernel_rfl) (by decide) D4.blk (fun w' hSw => (x_fieldAddr H rfl rfl (fa158_4 _ _))) ?_
            clear H a; intro a H
            refine y_take 5 H rfl (wanted_none rfl) rfl (by decide) (by kernel_rfl) (by kernel_rfl) (by kernel_rfl) rfl (by kernel_rfl) (by decide) D4.blk (fun w' hSw => (x_load H rfl rfl (l_cell (v := .slice (some ⟨fg, fo, none⟩) V.xf.length fc) Try.isAgg37 (hSw.at_ (i := 5) (by rw [← hvf]; rfl))))) ?_
            clear H a; intro a H
            refine y_take 6 H rfl (wanted_none rfl) rfl (by decide) (by kernel_rfl) (by kernel_rfl) (by kernel_rfl) rfl (by kernel_rfl) (by decide) D4.blk (fun w' hSw => (x_move H rfl rfl)) ?_
            clear H a; intro a H
            refine y_take 7 H rfl (wanted_none rfl) rfl (by decide) (by kernel_rfl) (by kernel_rfl) (by kernel_rfl) rfl (by kernel_rfl) (by decide) D4.blk (fun w' hSw => (x_slice H rfl rfl rfl rfl (sl_hi (hi := i) Try.underlying37 Try.sizeOf22 rfl (by omega)))) ?_
            clear H a; intro a H
            refine y_take 9 H rfl (wanted_none rfl) rfl (by decide) (by kernel_rfl) (by kernel_rfl) (by kernel_rfl) rfl (by kernel_rfl) (by decide) D4.blk (fun w' hSw => (x_move H rfl rfl)) ?_
            clear H a; intro a H
            refine y_take 10 H rfl (wanted_none rfl) rfl (by decide) (by kernel_rfl) (by kernel_rfl) (by kernel_rfl) rfl (by kernel_rfl) (by decide) D4.blk (fun w' hSw => (x_nilCheck H rfl rfl)) ?_
            clear H a; intro a H
            refine y_take 11 H rfl (wanted_none rfl) rfl (by decide) (by kernel_rfl) (by kernel_rfl) (by kernel_rfl) rfl (by kernel_rfl) (by decide) D4.blk (fun w' hSw => (x_fieldAddr H rfl rfl (fa158_4 _ _))) ?_
            clear H a; intro a H
            refine y_take 12 H rfl (wanted_none rfl) rfl (by decide) (by kernel_rfl) (by kernel_rfl) (by kernel_rfl) rfl (by kernel_rfl) (by decide) D4.blk (fun w' hSw => (x_load H rfl rfl (l_cell (v := .slice (some ⟨fg, fo, none⟩) V.xf.length fc) Try.isAgg37 (hSw.at_ (i := 5) (by rw [← hvf]; rfl))))) ?_
            clear H a; intro a H
            refine y_take 13 H rfl (wanted_none rfl) rfl (by decide) (by kernel_rfl) (by kernel_rfl) (by kernel_rfl) rfl (by kernel_rfl) (by decide) D4.blk (fun w' hSw => (x_move H rfl rfl)) ?_
            clear H a; intro a H
            refine y_take 14 H rfl (wanted_none rfl) rfl (by decide) (by kernel_rfl) (by kernel_rfl) (by kernel_rfl) rfl (by kernel_rfl) (by decide) D4.blk (fun w' hSw => (x_binI H rfl rfl rfl (b_add (z := ((i + 1 : Nat) : Int)) (by rw [IntKind.wrap_i64]; omega)))) ?_
            clear H a; intro a H
            refine y_take 15 H rfl (wanted_none rfl) rfl (by decide) (by kernel_rfl) (by kernel_rfl) (by kernel_rfl) rfl (by kernel_rfl) (by decide) D4.blk (fun w' hSw => (x_slice H rfl rfl rfl rfl (sl_lo (lo := i + 1) Try.underlying37 Try.sizeOf22 rfl (by omega)))) ?_
            clear H a; intro a H
            refine y_op 1 H rfl (by kernel_rfl) (wanted_none rfl) rfl (by decide) (x_buildSlice H rfl rfl (bs37z _)) (D4.blk.ext ((Ext.refl _).al _)) ?_
            clear H a; intro a H
            have Xf := (Ext.refl w4).al (.cells #[] 22)
            have Nf : Rw (w4.alloc (.cells #[] 22)) w4.heap.size 22 (.slice (some ⟨w4.heap.size, 0, none⟩) 0 0) [] := Rw.new w4 w4.heap.size 22 [] (Nat.le_refl _) (by simp)
            obtain ⟨waf, hwaf⟩ : ∃ x, x = w4.alloc (.cells #[] 22) := ⟨_, rfl⟩
            rw [← hwaf] at Xf Nf ⊢
            obtain ⟨uf, wbf, hrf, Rf, Gf, hbf⟩ := Rw.app el37 waf 37 w4.heap.size Nf ((Qf.ext Xf).pre i (by omega)) (fun u hu => onef u (List.mem_of_mem_take hu)) (by rw [List.length_take, List.length_nil]; omega) (by omega) Xf.sz
            rw [List.nil_append] at Rf
            have Yf : Ext w4 wbf := Xf.grown Gf (fun k hk => (Nf.blk k hk).1)
            obtain ⟨vf, wcf, hsf, Tf, If, hcf⟩ := Rw.app el37 wbf 37 w4.heap.size Rf ((Qf.ext Yf).cut (i + 1) (by omega)) (fun u hu => onef u (List.mem_of_mem_drop hu)) (by rw [List.length_take, List.length_drop]; omega) (by omega) Yf.sz
            have Zf : Ext w4 wcf := Yf.grown If (fun k hk => (Rf.blk k hk).1)
            have ownf := own_two (s := w4.heap.size) rfl hbf hcf Xf.sz Yf.sz
            obtain ⟨amf, cmf, rfl, _⟩ := Rf.shape
            obtain ⟨anf, cnf, rfl, _⟩ := Tf.shape
            refine y_op 8 H rfl (by kernel_rfl) (wanted_none rfl) rfl (by decide) (x_builtin H rfl rfl (fun cs => bi_app hrf)) ((D4.ext Yf).blk) ?_
            clear H a; intro a H
            refine y_op 16 H rfl (by kernel_rfl) (wanted_none rfl) rfl (by decide) (x_builtin H rfl rfl (fun cs => bi_app hsf)) ((D4.ext Zf).blk) ?_
            clear H a; intro a H
            refine y_op 17 H rfl (by kernel_rfl) (wanted_none rfl) rfl (by decide) (x_nilCheck H rfl rfl) ((D4.ext Zf).blk) ?_
            clear H a; intro a H
            refine y_take 18 H rfl (wanted_none rfl) rfl (by decide) (by kernel_rfl) (by kernel_rfl) (by kernel_rfl) rfl (by kernel_rfl) (by decide) (D4.ext Zf).blk (fun w' hSw => (x_fieldAddr H rfl rfl (fa158_4 _ _))) ?_
            clear H a; intro a H
            refine y_last H rfl (by kernel_rfl) (wanted_none rfl) rfl (x_store H rfl rfl rfl (st_cell rfl rfl Try.sizeOf37 ((D4.ext Zf).blk.frozen _) ((D4.ext Zf).blk.isSome 5 (by simp [wCells])))) ?_
            have D5 := D4.setF (fw := p.fwd.take i ++ p.fwd.drop (i + 1)) Zf.frm (Tf.mono E4.sz) (.inr ownf) (((((D4.ef.ext Zf).tk i).app ((D4.ef.ext Zf).dp (i + 1))).as (by rw [List.map_append, List.map_take, List.map_drop]))) (fun k hk u hu => (List.mem_append.1 hu).elim (fun hu => (D4.dsep k hk).2.2.1 u (List.mem_of_mem_take hu)) (fun hu => (D4.dsep k hk).2.2.1 u (List.mem_of_mem_drop hu)))
            have F5 := frm_set (Zf.frm (s := V.vf.ownBlock.toList)) gw 5 (.slice anf (V.xf.take i ++ V.xf.drop (i + 1)).length cnf)
            have T5 : ∀ t, t ≠ 158 → t ≠ 22 → Ty w4 (V.vf.ownBlock.toList ++ [gw]) t := fun t h1 h2 => (Ty.row D4.rf (fun e => h2 e.symm)).app (Ty.blk D4.blk (fun e => h1 e.symm))
            have E5 := F5.ext E4 (row_ge D4.rf D4.low)
            have Op5 := Op4.ty F5 (T5 5 (by decide) (by decide))
            have M5 := M4.ty F5 (T5 168 (by decide) (by decide))
            generalize wcf.setCell ⟨gw, 5, none⟩ (.slice anf (V.xf.take i ++ V.xf.drop (i + 1)).length cnf) = w5 at *
            refine y_done (by kernel_rfl) (hR.out _ _ ?_)
            clear hR R
            refine hK15 _ _ ?_
            clear hK15 K15
            obtain ⟨w6, hw6⟩ : ∃ x_, x_ = w5.drew := ⟨_, rfl⟩
            have Ew6 : Ext w5 w6 := by rw [hw6]; exact (Ext.refl _).dr
            have D6 := D5.ext Ew6
            have E6 := E5.tr Ew6
            have M6 := M5.ext Ew6
            have Op6 := Op5.ext_ Ew6
            have Qc : Rw w6 wB.heap.size 3 (.slice (some ⟨cg, co, none⟩) (ints p.cks).length cc) (ints p.cks) := hvc ▸ D6.rc
            have onec := ints_one p.cks
            refine y_start (fun w' => Blk w' gw 158 (wCells gs gr { V with vf := .slice anf (V.xf.take i ++ V.xf.drop (i + 1)).length cnf, xf := V.xf.take i ++ V.xf.drop (i + 1) })) 19 (by kernel_rfl) (fun R hR => ?_)
            rw [← hw6]
            refine y_take 0 H rfl (wanted_none rfl) rfl (by decide) (by kernel_rfl) (by kernel_rfl) (by kernel_rfl) rfl (by kernel_rfl) (by decide) D6.blk (fun w' hSw => (x_move H rfl rfl)) ?_
            clear H a; intro a H
            refine y_take 2 H rfl (wanted_none rfl) rfl (by decide) (by kernel_rfl) (by kernel_rfl) (by kernel_rfl) rfl (by kernel_rfl) (by decide) D6.blk (fun w' hSw => (x_move H rfl rfl)) ?_
            clear H a; intro a H
            refine y_take 3 H rfl (wanted_none rfl) rfl (by decide) (by kernel_rfl) (by kernel_rfl) (by kernel_rfl) rfl (by kernel_rfl) (by decide) D6.blk (fun w' hSw => (x_nilCheck H rfl rfl)) ?_
            clear H a; intro a H
            refine y_take 4 H rfl (wanted_none rfl) rfl (by decide) (by kernel_rfl) (by kernel_rfl) (by kernel_rfl) rfl (by kernel_rfl) (by decide) D6.blk (fun w' hSw => (x_fieldAddr H rfl rfl (fa158_5 _ _))) ?_
            clear H a; intro a H
            refine y_take 5 H rfl (wanted_none rfl) rfl (by decide) (by kernel_rfl) (by kernel_rfl) (by kernel_rfl) rfl (by kernel_rfl) (by decide) D6.blk (fun w' hSw => (x_load H rfl rfl (l_cell (v := .slice (some ⟨cg, co, none⟩) (ints p.cks).length cc) Try.isAgg155 (hSw.at_ (i := 6) (by rw [← hvc]; rfl))))) ?_
            clear H a; intro a H
            refine y_take 6 H rfl (wanted_none rfl) rfl (by decide) (by kernel_rfl) (by kernel_rfl) (by kernel_rfl) rfl (by kernel_rfl) (by decide) D6.blk (fun w' hSw => (x_move H rfl rfl)) ?_
            clear H a; intro a H
            refine y_take 7 H rfl (wanted_none rfl) rfl (by decide) (by kernel_rfl) (by kernel_rfl) (by kernel_rfl) rfl (by kernel_rfl) (by decide) D6.blk (fun w' hSw => (x_slice H rfl rfl rfl rfl (sl_hi (hi := i) Try.underlying155 Try.sizeOf3 rfl (by omega)))) ?_
            clear H a; intro a H
            refine y_take 9 H rfl (wanted_none rfl) rfl (by decide) (by kernel_rfl) (by kernel_rfl) (by kernel_rfl) rfl (by kernel_rfl) (by decide) D6.blk (fun w' hSw => (x_move H rfl rfl)) ?_
            clear H a; intro a H
            refine y_take 10 H rfl (wanted_none rfl) rfl (by decide) (by kernel_rfl) (by kernel_rfl) (by kernel_rfl) rfl (by kernel_rfl) (by decide) D6.blk (fun w' hSw => (x_nilCheck H rfl rfl)) ?_
            clear H a; intro a H
            refine y_take 11 H rfl (wanted_none rfl) rfl (by decide) (by kernel_rfl) (by kernel_rfl) (by kernel_rfl) rfl (by kernel_rfl) (by decide) D6.blk (fun w' hSw => (x_fieldAddr H rfl rfl (fa158_5 _ _))) ?_
            clear H a; intro a H
            refine y_take 12 H rfl (wanted_none rfl) rfl (by decide) (by kernel_rfl) (by kernel_rfl) (by kernel_rfl) rfl (by kernel_rfl) (by decide) D6.blk (fun w' hSw => (x_load H rfl rfl (l_cell (v := .slice (some ⟨cg, co, none⟩) (ints p.cks).length cc) Try.isAgg155 (hSw.at_ (i := 6) (by rw [← hvc]; rfl))))) ?_
            clear H a; intro a H
            refine y_take 13 H rfl (wanted_none rfl) rfl (by decide) (by kernel_rfl) (by kernel_rfl) (by kernel_rfl) rfl (by kernel_rfl) (by decide) D6.blk (fun w' hSw => (x_move H rfl rfl)) ?_
            clear H a; intro a H
            refine y_take 14 H rfl (wanted_none rfl) rfl (by decide) (by kernel_rfl) (by kernel_rfl) (by kernel_rfl) rfl (by kernel_rfl) (by decide) D6.blk (fun w' hSw => (x_binI H rfl rfl rfl (b_add (z := ((i + 1 : Nat) : Int)) (by rw [IntKind.wrap_i64]; omega)))) ?_
            clear H a; intro a H
            refine y_take 15 H rfl (wanted_none rfl) rfl (by decide) (by kernel_rfl) (by kernel_rfl) (by kernel_rfl) rfl (by kernel_rfl) (by decide) D6.blk (fun w' hSw => (x_slice H rfl rfl rfl rfl (sl_lo (lo := i + 1) Try.underlying155 Try.sizeOf3 rfl (by omega)))) ?_
            clear H a; intro a H
            refine y_op 1 H rfl (by kernel_rfl) (wanted_none rfl) rfl (by decide) (x_buildSlice H rfl rfl (bs155z _)) (D6.blk.ext ((Ext.refl _).al _)) ?_
            clear H a; intro a H
            have Xc := (Ext.refl w6).al (.cells #[] 3)
            have Nc : Rw (w6.alloc (.cells #[] 3)) w6.heap.size 3 (.slice (some ⟨w6.heap.size, 0, none⟩) 0 0) [] := Rw.new w6 w6.heap.size 3 [] (Nat.le_refl _) (by simp)
            obtain ⟨wac, hwac⟩ : ∃ x, x = w6.alloc (.cells #[] 3) := ⟨_, rfl⟩
            rw [← hwac] at Xc Nc ⊢
            obtain ⟨uc, wbc, hrc, Rc, Gc, hbc⟩ := Rw.app el155 wac 155 w6.heap.size Nc ((Qc.ext Xc).pre i (by omega)) (fun u hu => onec u (List.mem_of_mem_take hu)) (by rw [List.length_take, List.length_nil]; omega) (by omega) Xc.sz
            rw [List.nil_append] at Rc
            have Yc : Ext w6 wbc := Xc.grown Gc (fun k hk => (Nc.blk k hk).1)
            obtain ⟨vc, wcc, hsc, Tc, Ic, hcc⟩ := Rw.app el155 wbc 155 w6.heap.size Rc ((Qc.ext Yc).cut (i + 1) (by omega)) (fun u hu => onec u (List.mem_of_mem_drop hu)) (by rw [List.length_take, List.length_drop]; omega) (by omega) Yc.sz
            have Zc : Ext w6 wcc := Yc.grown Ic (fun k hk => (Rc.blk k hk).1)
            have ownc := own_two (s := w6.heap.size) rfl hbc hcc Xc.sz Yc.sz
            obtain ⟨amc, cmc, rfl, _⟩ := Rc.shape
            obtain ⟨anc, cnc, rfl, _⟩ := Tc.shape
            refine y_op 8 H rfl (by kernel_rfl) (wanted_none rfl) rfl (by decide) (x_builtin H rfl rfl (fun cs => bi_app hrc)) ((D6.ext Yc).blk) ?_
            clear H a; intro a H
            refine y_op 16 H rfl (by kernel_rfl) (wanted_none rfl) rfl (by decide) (x_builtin H rfl rfl (fun cs => bi_app hsc)) ((D6.ext Zc).blk) ?_
            clear H a; intro a H
            refine y_op 17 H rfl (by kernel_rfl) (wanted_none rfl) rfl (by decide) (x_nilCheck H rfl rfl) ((D6.ext Zc).blk) ?_
            clear H a; intro a H
            refine y_take 18 H rfl (wanted_none rfl) rfl (by decide) (by kernel_rfl) (by kernel_rfl) (by kernel_rfl) rfl (by kernel_rfl) (by decide) (D6.ext Zc).blk (fun w' hSw => (x_fieldAddr H rfl rfl (fa158_5 _ _))) ?_
            clear H a; intro a H
            refine y_last H rfl (by kernel_rfl) (wanted_none rfl) rfl (x_store H rfl rfl rfl (st_cell rfl rfl Try.sizeOf155 ((D6.ext Zc).blk.frozen _) ((D6.ext Zc).blk.isSome 6 (by simp [wCells])))) ?_
            have D7 := D6.setC (ck := p.cks.take i ++ p.cks.drop (i + 1)) Zc.frm ((Tc.mono E6.sz).as (by simp [ints, List.map_take, List.map_drop]))
            have F7 := frm_set (Zc.frm (s := V.vc.ownBlock.toList)) gw 6 (.slice anc ((ints p.cks).take i ++ (ints p.cks).drop (i + 1)).length cnc)
            have T7 : ∀ t, t ≠ 158 → t ≠ 3 → Ty w6 (V.vc.ownBlock.toList ++ [gw]) t := fun t h1 h2 => (Ty.row D6.rc (fun e => h2 e.symm)).app (Ty.blk D6.blk (fun e => h1 e.symm))
            have E7 := F7.ext E6 (row_ge D6.rc D6.low)
            have Op7 := Op6.ty F7 (T7 5 (by decide) (by decide))
            have M7 := M6.ty F7 (T7 168 (by decide) (by decide))
            refine y_done (by kernel_rfl) (hR.out _ _ ?_)
            clear hR R
            exact ⟨rfl, H.sub ⟨rfl, rfl, rfl, rfl, rfl, trivial⟩, _, _, D7, KK.drop_ i, rfl, rfl, Op7, M7, E7⟩
      · skip
        rcases (show st = false ∨ (st = true ∧ kd % 10 = 6) ∨ (st = true ∧ kd % 10 ≠ 6) by cases st <;> simp <;> omega) with hst | ⟨hst, h6⟩ | ⟨hst, h6⟩
        · skip
          skip
          refine e_region (fun R hR => ?_)
          refine e_op H rfl rfl (by decide) (x_fieldAddr H rfl rfl (fa168_2 _ _)) ?_
          clear H a; intro a H
          refine e_op H rfl rfl (by decide) (x_load H rfl rfl (l_cell (v := .bool false) Try.isAgg4 (M0.at_ (i := 2) (by rw [hst]; rfl)))) ?_
          clear H a; intro a H
          refine e_op H rfl rfl (by decide) (x_un H rfl rfl (u_not (c := true) rfl)) ?_
          clear H a; intro a H
          refine e_op H rfl rfl (by decide) (x_move H rfl rfl) ?_
          clear H a; intro a H
          refine e_skip H (wanted_false H rfl rfl rfl rfl) rfl (by decide) ?_
          clear H a; intro a H
          refine e_skip H (wanted_false H rfl rfl rfl rfl) rfl (by decide) ?_
          clear H a; intro a H
          refine e_op H rfl rfl (by decide) (x_pickT H rfl rfl rfl) ?_
          clear H a; intro a H
          refine e_nil (hR.out _ _ ?_)
          clear hR R
          refine ⟨rfl, H.sub ⟨rfl, rfl, rfl, rfl, rfl, rfl, (by rw [hst]; rfl), trivial⟩, rfl⟩
        · skip
          skip
          refine e_region (fun R hR => ?_)
          refine e_op H rfl rfl (by decide) (x_fieldAddr H rfl rfl (fa168_2 _ _)) ?_
          clear H a; intro a H
          refine e_op H rfl rfl (by decide) (x_load H rfl rfl (l_cell (v := .bool true) Try.isAgg4 (M0.at_ (i := 2) (by rw [hst]; rfl)))) ?_
          clear H a; intro a H
          refine e_op H rfl rfl (by decide) (x_un H rfl rfl (u_not (c := false) rfl)) ?_
          clear H a; intro a H
          refine e_op H rfl rfl (by decide) (x_move H rfl rfl) ?_
          clear H a; intro a H
          refine e_opg H (wanted_true H rfl rfl rfl rfl) rfl (by decide) (x_move H rfl rfl) ?_
          clear H a; intro a H
          refine e_opg H (wanted_true H rfl rfl rfl rfl) rfl (by decide) (x_binI H rfl rfl rfl (b_eql (b := true) (beq_t (by omega)))) ?_
          clear H a; intro a H
          refine e_op H rfl rfl (by decide) (x_pickF H rfl rfl rfl) ?_
          clear H a; intro a H
          refine e_nil (hR.out _ _ ?_)
          clear hR R
          refine ⟨rfl, H.sub ⟨rfl, rfl, rfl, rfl, rfl, rfl, (by rw [hst, decide_eq_true h6]; rfl), trivial⟩, rfl⟩
        · skip
          skip
          refine e_region (fun R hR => ?_)
          refine e_op H rfl rfl (by decide) (x_fieldAddr H rfl rfl (fa168_2 _ _)) ?_
          clear H a; intro a H
          refine e_op H rfl rfl (by decide) (x_load H rfl rfl (l_cell (v := .bool true) Try.isAgg4 (M0.at_ (i := 2) (by rw [hst]; rfl)))) ?_
          clear H a; intro a H
          refine e_op H rfl rfl (by decide) (x_un H rfl rfl (u_not (c := false) rfl)) ?_
          clear H a; intro a H
          refine e_op H rfl rfl (by decide) (x_move H rfl rfl) ?_
          clear H a; intro a H
          refine e_opg H (wanted_true H rfl rfl rfl rfl) rfl (by decide) (x_move H rfl rfl) ?_
          clear H a; intro a H
          refine e_opg H (wanted_true H rfl rfl rfl rfl) rfl (by decide) (x_binI H rfl rfl rfl (b_eql (b := false) (beq_f (by omega)))) ?_
          clear H a; intro a H
          refine e_op H rfl rfl (by decide) (x_pickF H rfl rfl rfl) ?_
          clear H a; intro a H
          refine e_nil (hR.out _ _ ?_)
          clear hR R
          refine ⟨rfl, H.sub ⟨rfl, rfl, rfl, rfl, rfl, rfl, (by rw [hst, decide_eq_false h6]; rfl), trivial⟩, rfl⟩
    · skip
      refine calls_has (args := [.pointer (some ⟨gw, 0, none⟩), .agg #[.int .u8 (kd : Int), .int .u16 (at_ : Int), .bool st, .int .u32 (bz : Int)]]) Try.func102 rfl Try.ntmps102 (Nat.le_of_ble_eq_true rfl) (fun a H => ?_)
      simp only [argl, Nat.reduceAdd] at H
      refine wp_seq_k (fun K1 hK1 => ?_)
      refine e_region (fun R hR => ?_)
      refine e_op H rfl rfl (by decide) (x_box H rfl rfl bx_new) ?_
      clear H a; intro a H
      have M0 := Blk.new w0 168 [.int .u8 (kd : Int), .int .u16 (at_ : Int), .bool st, .int .u32 (bz : Int)]
      have E1 := E0.al (.cells #[.int .u8 (kd : Int), .int .u16 (at_ : Int), .bool st, .int .u32 (bz : Int)] 168)
      have D1 := D.ext ((Ext.refl w0).al (.cells #[.int .u8 (kd : Int), .int .u16 (at_ : Int), .bool st, .int .u32 (bz : Int)] 168))
      obtain ⟨g3, hg3⟩ : ∃ g, g = w0.heap.size := ⟨_, rfl⟩
      rw [← hg3] at H M0
      generalize w0.alloc (.cells #[.int .u8 (kd : Int), .int .u16 (at_ : Int), .bool st, .int .u32 (bz : Int)] 168) = w1 at *
      clear D
      have D := D1
      clear D1
      refine e_op H rfl rfl (by decide) (x_assign H rfl rfl) ?_
      clear H a; intro a H
      refine e_nil (hR.out _ _ ?_)
      clear hR R
      refine hK1 _ _ ?_
      clear hK1 K1
      refine wp_seq_k (fun K2 hK2 => ?_)
      refine wp_seq_k (fun K3 hK3 => ?_)
      refine e_region (fun R hR => ?_)
      refine e_op H rfl rfl (by decide) (x_fieldAddr H rfl rfl (fa168_0 _ _)) ?_
      clear H a; intro a H
      refine e_op H rfl rfl (by decide) (x_load H rfl rfl (l_cell Try.isAgg5 (M0.at_ (i := 0) rfl))) ?_
      clear H a; intro a H
      refine e_op H rfl rfl (by decide) (x_binI H rfl rfl rfl (b_rem (z := ((kd % 10 : Nat) : Int)) (by decide) (by rw [Int.tmod_eq_emod_of_nonneg (by omega)]; omega))) ?_
      clear H a; intro a H
      refine e_op H rfl rfl (by decide) (x_assign H rfl rfl) ?_
      clear H a; intro a H
      refine e_nil (hR.out _ _ ?_)
      clear hR R
      refine hK3 _ _ ?_
      clear hK3 K3
      refine wp_block ?_
      refine wp_seq_k (fun K4 hK4 => ?_)
      refine e_region (fun R hR => ?_)
      refine e_op H rfl rfl (by decide) (x_move H rfl rfl) ?_
      clear H a; intro a H
      refine e_op H rfl rfl (by decide) (x_binI H rfl rfl rfl (b_lss (b := false) (dec_f (by omega)))) ?_
      clear H a; intro a H
      refine e_op H rfl rfl (by decide) (x_assign H rfl rfl) ?_
      clear H a; intro a H
      refine e_nil (hR.out _ _ ?_)
      clear hR R
      refine hK4 _ _ ?_
      clear hK4 K4
      refine c_false H rfl ?_
      refine wp_seq_k (fun K5 hK5 => ?_)
      refine e_region (fun R hR => ?_)
      refine e_op H rfl rfl (by decide) (x_move H rfl rfl) ?_
      clear H a; intro a H
      refine e_op H rfl rfl (by decide) (x_binI H rfl rfl rfl (b_lss (b := true) (dec_t (by omega)))) ?_
      clear H a; intro a H
      refine e_op H rfl rfl (by decide) (x_assign H rfl rfl) ?_
      clear H a; intro a H
      refine e_nil (hR.out _ _ ?_)
      clear hR R
      refine hK5 _ _ ?_
      clear hK5 K5
      refine c_true H rfl ?_
      refine wp_seq_k (fun K6 hK6 => ?_)
      refine wp_seq_k (fun K7 hK7 => ?_)
      refine e_region (fun R hR => ?_)
      refine e_op H rfl rfl (by decide) (x_move H rfl rfl) ?_
      clear H a; intro a H
      refine e_op H rfl rfl (by decide) (x_nilCheck H rfl rfl) ?_
      clear H a; intro a H
      refine e_op H rfl rfl (by decide) (x_fieldAddr H rfl rfl (fa158_4 _ _)) ?_
      clear H a; intro a H
      refine e_op H rfl rfl (by decide) (x_load H rfl rfl (l_cell (v := .slice (some ⟨fg, fo, none⟩) V.xf.length fc) Try.isAgg37 (D.blk.at_ (i := 5) (by rw [← hvf]; rfl)))) ?_
      clear H a; intro a H
      refine e_op H rfl rfl (by decide) (x_builtin H rfl rfl (fun cs => len_sl Try.underlying37)) ?_
      clear H a; intro a H
      refine e_op H rfl rfl (by decide) (x_binI H rfl rfl rfl (b_eql (b := false) (beq_f (by omega)))) ?_
      clear H a; intro a H
      refine e_nil (hR.out _ _ ?_)
      clear hR R
      refine hK7 _ _ ?_
      clear hK7 K7
      refine c_false H rfl ?_
      refine wp_skip ?_
      refine hK6 _ _ ?_
      clear hK6 K6
      refine wp_seq_k (fun K8 hK8 => ?_)
      refine e_quiet (by kernel_rfl) (by kernel_rfl) (fun R hR => ?_)
      obtain ⟨w2, hw2⟩ : ∃ x_, x_ = w1.drew := ⟨_, rfl⟩
      have Ew2 : Ext w1 w2 := by rw [hw2]; exact (Ext.refl _).dr
      replace D := D.ext Ew2
      replace E1 := E1.tr Ew2
      replace M0 := M0.ext Ew2
      rw [← hw2]
      clear hw2
      refine s_op H rfl rfl (by decide) (x_fieldAddr H rfl rfl (fa168_1 _ _)) ?_
      clear H a; intro a H
      refine s_op H rfl rfl (by decide) (x_load H rfl rfl (l_cell Try.isAgg47 (M0.at_ (i := 1) rfl))) ?_
      clear H a; intro a H
      refine s_op H rfl rfl (by decide) (x_conv H rfl rfl (c_int (z := ((at_ : Nat) : Int)) Try.underlying47 Try.underlying3 (by rw [IntKind.wrap_i64]; omega))) ?_
      clear H a; intro a H
      refine s_op H rfl rfl (by decide) (x_move H rfl rfl) ?_
      clear H a; intro a H
      refine s_op H rfl rfl (by decide) (x_nilCheck H rfl rfl) ?_
      clear H a; intro a H
      refine s_op H rfl rfl (by decide) (x_fieldAddr H rfl rfl (fa158_4 _ _)) ?_
      clear H a; intro a H
      refine s_op H rfl rfl (by decide) (x_load H rfl rfl (l_cell (v := .slice (some ⟨fg, fo, none⟩) V.xf.length fc) Try.isAgg37 (D.blk.at_ (i := 5) (by rw [← hvf]; rfl)))) ?_
      clear H a; intro a H
      refine s_op H rfl rfl (by decide) (x_builtin H rfl rfl (fun cs => len_sl Try.underlying37)) ?_
      clear H a; intro a H
      refine s_op H rfl rfl (by decide) (x_binI H rfl rfl rfl (b_rem (z := (i : Int)) (by omega) (by rw [Int.tmod_eq_emod_of_nonneg (by omega)]; exact hie))) ?_
      clear H a; intro a H
      refine s_op H rfl rfl (by decide) (x_assign H rfl rfl) ?_
      clear H a; intro a H
      refine wpStill_nil (hR.out _ _ ?_)
      clear hR R
      refine hK8 _ _ ?_
      clear hK8 K8
      refine wp_seq_k (fun K9 hK9 => ?_)
      refine e_quiet (by kernel_rfl) (by kernel_rfl) (fun R hR => ?_)
      obtain ⟨w3, hw3⟩ : ∃ x_, x_ = w2.drew := ⟨_, rfl⟩
      have Ew3 : Ext w2 w3 := by rw [hw3]; exact (Ext.refl _).dr
      replace D := D.ext Ew3
      replace E1 := E1.tr Ew3
      replace M0 := M0.ext Ew3
      have RF : Rw w3 wB.heap.size 22 (.slice (some ⟨fg, fo, none⟩) V.xf.length fc) V.xf := hvf ▸ D.rf
      have RC : Rw w3 wB.heap.size 3 (.slice (some ⟨cg, co, none⟩) (ints p.cks).length cc) (ints p.cks) := hvc ▸ D.rc
      obtain ⟨pa, pc, hpx, hOp⟩ := D.ef.at_ i _ hfk
      rw [← hw3]
      clear hw3
      refine s_op H rfl rfl (by decide) (x_move H rfl rfl) ?_
      clear H a; intro a H
      refine s_op H rfl rfl (by decide) (x_nilCheck H rfl rfl) ?_
      clear H a; intro a H
      refine s_op H rfl rfl (by decide) (x_fieldAddr H rfl rfl (fa158_4 _ _)) ?_
      clear H a; intro a H
      refine s_op H rfl rfl (by decide) (x_load H rfl rfl (l_cell (v := .slice (some ⟨fg, fo, none⟩) V.xf.length fc) Try.isAgg37 (D.blk.at_ (i := 5) (by rw [← hvf]; rfl)))) ?_
      clear H a; intro a H
      refine s_op H rfl rfl (by decide) (x_move H rfl rfl) ?_
      clear H a; intro a H
      refine s_op H rfl rfl (by decide) (x_indexAddr H rfl rfl rfl (i_sl (m := i) Try.underlying37 Try.sizeOf22 rfl (by omega))) ?_
      clear H a; intro a H
      refine s_op H rfl rfl (by decide) (x_load H rfl rfl (l_cell Try.isAgg22 (RF.cells i _ hpx))) ?_
      clear H a; intro a H
      refine s_op H rfl rfl (by decide) (x_move H rfl rfl) ?_
      clear H a; intro a H
      refine s_op H rfl rfl (by decide) (x_nilCheck H rfl rfl) ?_
      clear H a; intro a H
      refine s_op H rfl rfl (by decide) (x_fieldAddr H rfl rfl (fa158_5 _ _)) ?_
      clear H a; intro a H
      refine s_op H rfl rfl (by decide) (x_load H rfl rfl (l_cell (v := .slice (some ⟨cg, co, none⟩) (ints p.cks).length cc) Try.isAgg155 (D.blk.at_ (i := 6) (by rw [← hvc]; rfl)))) ?_
      clear H a; intro a H
      refine s_op H rfl rfl (by decide) (x_move H rfl rfl) ?_
      clear H a; intro a H
      refine s_op H rfl rfl (by decide) (x_indexAddr H rfl rfl rfl (i_sl (m := i) Try.underlying155 Try.sizeOf3 rfl (by rw [ints_len]; omega))) ?_
      clear H a; intro a H
      refine s_op H rfl rfl (by decide) (x_load H rfl rfl (l_cell Try.isAgg3 (RC.cells i _ hck))) ?_
      clear H a; intro a H
      refine s_op H rfl rfl (by decide) (x_assign H rfl rfl) ?_
      clear H a; intro a H
      refine s_op H rfl rfl (by decide) (x_assign H rfl rfl) ?_
      clear H a; intro a H
      refine wpStill_nil (hR.out _ _ ?_)
      clear hR R
      refine hK9 _ _ ?_
      clear hK9 K9
      refine wp_seq_k (fun K10 hK10 => ?_)
      refine wp_seq_k (fun K11 hK11 => ?_)
      refine Code.wp_mono (Q := fun e a w => e = Exit.normal ∧ Has a 309 [(0, .pointer (some ⟨gw, 0, none⟩)), (3, .pointer (some ⟨g3, 0, none⟩)), (5, .int .u8 ((kd % 10 : Nat) : Int)), (8, .int .i64 (i : Int)), (9, .slice pa (pkt p.s.id p.s.file k).length pc), (10, .int .i64 (k : Int)), (192, .bool (!st || decide (kd % 10 = 6)))] ∧ w = w3) (fun e a w hM => ?_) ?_
      · skip
        clear H
        obtain ⟨rfl, H, hww⟩ := hM
        rw [hww]
        clear hww w
        refine hK11 _ _ ?_
        clear hK11 K11
        refine Code.wp_mono (Q := fun e a w => e = Exit.normal ∧ Has a 309 [(0, .pointer (some ⟨gw, 0, none⟩)), (3, .pointer (some ⟨g3, 0, none⟩)), (5, .int .u8 ((kd % 10 : Nat) : Int)), (9, .slice pa (pkt p.s.id p.s.file k).length pc), (10, .int .i64 (k : Int))] ∧ ∃ V1 p1, Wd w wB.heap.size gw gs gr V1 p1 ∧ Wok p1 id file ∧ V1.vr = V.vr ∧ p1.s = p.s ∧ Ow w wB.heap.size pa (pkt p.s.id p.s.file k).length pc (pkt p.s.id p.s.file k) ∧ Blk w g3 168 [.int .u8 (kd : Int), .int .u16 (at_ : Int), .bool st, .int .u32 (bz : Int)] ∧ Ext wB w) (fun e a w hM => ?_) ?_
        · skip
          clear H D hOp M0 E1 RF RC
          obtain ⟨rfl, H, V1, p1, D, K1, hvr, hps, hOp, M0, E1⟩ := hM
          refine hK10 _ _ ?_
          clear hK10 K10
          refine wp_seq_k (fun K12 hK12 => ?_)
          refine wp_seq_k (fun K13 hK13 => ?_)
          refine e_region (fun R hR => ?_)
          refine e_op H rfl rfl (by decide) (x_move H rfl rfl) ?_
          clear H a; intro a H
          refine e_op H rfl rfl (by decide) (x_binI H rfl rfl rfl (b_eql (b := false) (beq_f (by omega)))) ?_
          clear H a; intro a H
          refine e_nil (hR.out _ _ ?_)
          clear hR R
          refine hK13 _ _ ?_
          clear hK13 K13
          refine c_false H rfl ?_
          refine wp_skip ?_
          refine hK12 _ _ ?_
          clear hK12 K12
          refine wp_seq_k (fun K14 hK14 => ?_)
          obtain ⟨wd, hwd⟩ : ∃ x_, x_ = w.drew := ⟨_, rfl⟩
          have Ewd : Ext w wd := by rw [hwd]; exact (Ext.refl _).dr
          replace D := D.ext Ewd
          replace E1 := E1.tr Ewd
          replace hOp := hOp.ext_ Ewd
          replace M0 := M0.ext Ewd
          have HS := M0
          refine g_start (fun w' => Blk w' g3 168 [.int .u8 (kd : Int), .int .u16 (at_ : Int), .bool st, .int .u32 (bz : Int)]) (by kernel_rfl) (fun R hR => ?_)
          rw [← hwd]
          refine g_take 0 H rfl (wanted_none rfl) rfl (by decide) (by kernel_rfl) (by kernel_rfl) (by kernel_rfl) HS (fun w' hSw => (x_move H rfl rfl)) ?_
          clear H a; intro a H
          refine g_take 1 H rfl (wanted_none rfl) rfl (by decide) (by kernel_rfl) (by kernel_rfl) (by kernel_rfl) HS (fun w' hSw => (x_fieldAddr H rfl rfl (fa168_1 _ _))) ?_
          clear H a; intro a H
          refine g_take 2 H rfl (wanted_none rfl) rfl (by decide) (by kernel_rfl) (by kernel_rfl) (by kernel_rfl) HS (fun w' hSw => (x_load H rfl rfl (l_cell Try.isAgg47 (hSw.at_ (i := 1) rfl)))) ?_
          clear H a; intro a H
          refine g_take 3 H rfl (wanted_none rfl) rfl (by decide) (by kernel_rfl) (by kernel_rfl) (by kernel_rfl) HS (fun w' hSw => (x_conv H rfl rfl (c_int (z := ((at_ : Nat) : Int)) Try.underlying47 Try.underlying3 (by rw [IntKind.wrap_i64]; omega)))) ?_
          clear H a; intro a H
          refine g_take 4 H rfl (wanted_none rfl) rfl (by decide) (by kernel_rfl) (by kernel_rfl) (by kernel_rfl) HS (fun w' hSw => (x_move H rfl rfl)) ?_
          clear H a; intro a H
          refine g_take 5 H rfl (wanted_none rfl) rfl (by decide) (by kernel_rfl) (by kernel_rfl) (by kernel_rfl) HS (fun w' hSw => (x_builtin H rfl rfl (fun cs => len_sl Try.underlying22))) ?_
          clear H a; intro a H
          refine g_take 6 H rfl (wanted_none rfl) rfl (by decide) (by kernel_rfl) (by kernel_rfl) (by kernel_rfl) HS (fun w' hSw => (x_binI H rfl rfl rfl (b_mul (z := ((8 * (pkt p.s.id p.s.file k).length : Nat) : Int)) (by rw [IntKind.wrap_i64]; omega)))) ?_
          clear H a; intro a H
          refine g_take 7 H rfl (wanted_none rfl) rfl (by decide) (by kernel_rfl) (by kernel_rfl) (by kernel_rfl) HS (fun w' hSw => (x_builtin H rfl rfl (fun cs => bi_max (z := ((8 * (pkt p.s.id p.s.file k).length : Nat) : Int)) (by split <;> omega)))) ?_
          clear H a; intro a H
          refine g_take 8 H rfl (wanted_none rfl) rfl (by decide) (by kernel_rfl) (by kernel_rfl) (by kernel_rfl) HS (fun w' hSw => (x_binI H rfl rfl rfl (b_rem (z := (((at_ % (8 * (pkt p.s.id p.s.file k).length)) : Nat) : Int)) (by omega) (by rw [Int.tmod_eq_emod_of_nonneg (by omega)]; exact (Int.natCast_emod _ _).symm)))) ?_
          clear H a; intro a H
          refine g_take 9 H rfl (wanted_none rfl) rfl (by decide) (by kernel_rfl) (by kernel_rfl) (by kernel_rfl) HS (fun w' hSw => (x_fieldAddr H rfl rfl (fa168_3 _ _))) ?_
          clear H a; intro a H
          refine g_take 10 H rfl (wanted_none rfl) rfl (by decide) (by kernel_rfl) (by kernel_rfl) (by kernel_rfl) HS (fun w' hSw => (x_load H rfl rfl (l_cell Try.isAgg52 (hSw.at_ (i := 3) rfl)))) ?_
          clear H a; intro a H
          refine g_call 11 H rfl (by kernel_rfl) (wanted_none rfl) rfl (by decide) rfl rfl (Try.call133 _) (change_any pa _ pc (pkt p.s.id p.s.file k) (at_ % (8 * (pkt p.s.id p.s.file k).length)) bz wd hOp.bs (ow_cap hOp) (by omega) (Nat.le_trans (Nat.mod_le _ _) (by omega)) (by omega)) ?_
          clear H a
          rintro e we ⟨qa, qc, rfl, OQ, Ek⟩
          replace OQ := OQ.mono E1.sz
          replace D := D.ext Ek
          replace E1 := E1.tr Ek
          replace hOp := hOp.ext_ Ek
          replace M0 := M0.ext Ek
          clear HS
          have HS := M0
          refine ⟨_, rfl, HS, fun a H => ?_⟩
          refine g_take 12 H rfl (wanted_none rfl) rfl (by decide) (by kernel_rfl) (by kernel_rfl) (by kernel_rfl) HS (fun w' hSw => (x_move H rfl rfl)) ?_
          clear H a; intro a H
          refine g_take 13 H rfl (wanted_none rfl) rfl (by decide) (by kernel_rfl) (by kernel_rfl) (by kernel_rfl) HS (fun w' hSw => (x_extract H rfl rfl (v := .slice qa (pkt p.s.id p.s.file k).length qc) rfl)) ?_
          clear H a; intro a H
          refine g_take 14 H rfl (wanted_none rfl) rfl (by decide) (by kernel_rfl) (by kernel_rfl) (by kernel_rfl) HS (fun w' hSw => (x_extract H rfl rfl (v := .bool (changed (at_ % (8 * (pkt p.s.id p.s.file k).length)) (8 * (pkt p.s.id p.s.file k).length) bz 32)) rfl)) ?_
          clear H a; intro a H
          refine g_take 15 H rfl (wanted_none rfl) rfl (by decide) (by kernel_rfl) (by kernel_rfl) (by kernel_rfl) HS (fun w' hSw => (x_assign H rfl rfl)) ?_
          clear H a; intro a H
          refine g_take 16 H rfl (wanted_none rfl) rfl (by decide) (by kernel_rfl) (by kernel_rfl) (by kernel_rfl) HS (fun w' hSw => (x_assign H rfl rfl)) ?_
          clear H a; intro a H
          refine g_done (by kernel_rfl) (hR.out _ _ ?_)
          clear hR R
          clear HS
          obtain ⟨qs, hqs⟩ : ∃ q, q = flips (pkt p.s.id p.s.file k) (at_ % (8 * (pkt p.s.id p.s.file k).length)) (8 * (pkt p.s.id p.s.file k).length) bz 32 := ⟨_, rfl⟩
          rw [← hqs] at OQ
          obtain ⟨ch, hch⟩ : ∃ b, b = changed (at_ % (8 * (pkt p.s.id p.s.file k).length)) (8 * (pkt p.s.id p.s.file k).length) bz 32 := ⟨_, rfl⟩
          rw [← hch] at H
          refine hK14 _ _ ?_
          clear hK14 K14
          refine wp_seq_k (fun K15 hK15 => ?_)
          refine e_region (fun R hR => ?_)
          refine e_op H rfl rfl (by decide) (x_move H rfl rfl) ?_
          clear H a; intro a H
          refine e_op H rfl rfl (by decide) (x_nilCheck H rfl rfl) ?_
          clear H a; intro a H
          refine e_op H rfl rfl (by decide) (x_fieldAddr H rfl rfl (fa158_1 _ _)) ?_
          clear H a; intro a H
          refine e_op H rfl rfl (by decide) (x_load H rfl rfl (l_cell Try.isAgg65 (D.blk.at_ (i := 1) rfl))) ?_
          clear H a; intro a H
          refine e_op H rfl rfl (by decide) (x_move H rfl rfl) ?_
          clear H a; intro a H
          refine e_callq H rfl rfl (by decide) rfl rfl (Try.call56 _) (in_any wB.heap.size gr V1.vr p1.r qa _ qc qs we D.rv OQ.bs (ow_cap OQ) (ow_le OQ) (by omega)) ?_
          clear H a
          rintro e wi ⟨rfl, v9, R9, F9, hw9, _⟩
          have D9 := D.rcv F9 R9 hw9
          have E9 := F9.ext E1 (own_ge D)
          refine ⟨_, rfl, fun a H => ?_⟩
          refine e_op H rfl rfl (by decide) (x_assign H rfl rfl) ?_
          clear H a; intro a H
          refine e_nil (hR.out _ _ ?_)
          clear hR R
          refine hK15 _ _ ?_
          clear hK15 K15
          refine wp_seq_k (fun K16 hK16 => ?_)
          refine wp_seq_k (fun K17 hK17 => ?_)
          refine e_region (fun R hR => ?_)
          refine e_op H rfl rfl (by decide) (x_move H rfl rfl) ?_
          clear H a; intro a H
          refine e_nil (hR.out _ _ ?_)
          clear hR R
          refine hK17 _ _ ?_
          clear hK17 K17
          refine c_split H rfl (fun ht => ?_) (fun ht => ?_)
          · skip
            have ht' : changed (at_ % (8 * (pkt p.s.id p.s.file k).length)) (8 * (pkt p.s.id p.s.file k).length) bz 32 = true := by rw [← hch]; simpa using ht
            have hbu := Rcv.in_burst p1.r (pktB p.s.id p.s.file k) qs (at_ % (8 * (pkt p.s.id p.s.file k).length)) bz (by rw [hqs]; rfl) ht' (by have := pktB_len p.s.id p.s.file k (by omega) (by rw [hpf0]; exact hfll) (by omega); omega)
            rw [hbu] at H D9
            refine wp_seq_k (fun K18 hK18 => ?_)
            refine e_region (fun R hR => ?_)
            refine e_op H rfl rfl (by decide) (x_move H rfl rfl) ?_
            clear H a; intro a H
            refine e_op H rfl rfl (by decide) (x_binI H rfl rfl rfl (b_eql (b := false) (rfl))) ?_
            clear H a; intro a H
            refine e_op H rfl rfl (by decide) (x_move H rfl rfl) ?_
            clear H a; intro a H
            refine e_opg H (wanted_true H rfl rfl rfl rfl) rfl (by decide) (x_move H rfl rfl) ?_
            clear H a; intro a H
            refine e_opg H (wanted_true H rfl rfl rfl rfl) rfl (by decide) (x_binI H rfl rfl rfl (b_eql (b := true) (rfl))) ?_
            clear H a; intro a H
            refine e_op H rfl rfl (by decide) (x_pickF H rfl rfl rfl) ?_
            clear H a; intro a H
            refine e_op H rfl rfl (by decide) (x_assign H rfl rfl) ?_
            clear H a; intro a H
            refine e_nil (hR.out _ _ ?_)
            clear hR R
            refine hK18 _ _ ?_
            clear hK18 K18
            refine wp_ret ?_
            refine t_ret ?_
            refine b_ret ?_
            refine t_ret ?_
            exact ret1 H rfl rfl ⟨rfl, _, _, D9, K1, E9⟩
          · skip
            have ht' : changed (at_ % (8 * (pkt p.s.id p.s.file k).length)) (8 * (pkt p.s.id p.s.file k).length) bz 32 = false := by rw [← hch]; simpa using ht
            have hqe : qs = pkt id file k := by rw [hqs, flips_none _ _ _ _ _ ht', hps0, hpf0]
            obtain ⟨h1, h2, h3, h4⟩ := K1.rof.in_ k hid hfll hkc
            rw [hqe, h1] at H
            rw [hqe, h2] at D9
            obtain ⟨hg, ho, hc9, hvh⟩ := D9.hh.pos (by rw [bools_len]; show 0 < p1.has.length; rw [K1.hlen]; omega)
            have hhc : ((bools p1.has)[k]?).isSome := by rw [List.getElem?_eq_getElem (by rw [bools_len, K1.hlen]; exact hkc)]; rfl
            have RH9 : Rw wi wB.heap.size 4 (.slice (some ⟨hg, ho, none⟩) (bools p1.has).length hc9) (bools p1.has) := hvh ▸ D9.hh
            have D10 := D9.hasSet hvh k (by show k < p1.has.length; rw [K1.hlen]; exact hkc) true
            have E10 : Ext wB (wi.setCell ⟨hg, ho + k, none⟩ (.bool true)) := ((Frm.refl [hg] wi).st hg _ _ (.inl (by simp))).ext E9 (fun x hx => by simp only [List.mem_singleton] at hx; rw [hx]; exact (RH9.blk hg rfl).1)
            refine wp_skip ?_
            refine hK16 _ _ ?_
            clear hK16 K16
            refine wp_seq_k (fun K19 hK19 => ?_)
            refine e_region (fun R hR => ?_)
            refine e_op H rfl rfl (by decide) (x_move H rfl rfl) ?_
            clear H a; intro a H
            refine e_op H rfl rfl (by decide) (x_nilCheck H rfl rfl) ?_
            clear H a; intro a H
            refine e_op H rfl rfl (by decide) (x_fieldAddr H rfl rfl (fa158_2 _ _)) ?_
            clear H a; intro a H
            refine e_op H rfl rfl (by decide) (x_fieldAddr H rfl rfl (fa154_0 _ _ _)) ?_
            clear H a; intro a H
            refine e_op H rfl rfl (by decide) (x_load H rfl rfl (l_cell (v := .slice (some ⟨hg, ho, none⟩) (bools p1.has).length hc9) Try.isAgg152 (D9.blk.at_ (i := 2) (by rw [← hvh]; rfl)))) ?_
            clear H a; intro a H
            refine e_op H rfl rfl (by decide) (x_move H rfl rfl) ?_
            clear H a; intro a H
            refine e_op H rfl rfl (by decide) (x_indexAddr H rfl rfl rfl (i_sl (m := k) Try.underlying152 Try.sizeOf4 rfl (by rw [bools_len, K1.hlen]; exact hkc))) ?_
            clear H a; intro a H
            refine e_st H rfl rfl (x_store H rfl rfl rfl (st_cell rfl rfl Try.sizeOf4 (RH9.froz _) (by obtain ⟨u, hu⟩ := Option.isSome_iff_exists.1 hhc; rw [RH9.cells k u hu]; rfl))) ?_
            refine e_nil (hR.out _ _ ?_)
            clear hR R
            refine hK19 _ _ ?_
            clear hK19 K19
            refine wp_seq_k (fun K20 hK20 => ?_)
            refine e_region (fun R hR => ?_)
            refine e_op H rfl rfl (by decide) (x_move H rfl rfl) ?_
            clear H a; intro a H
            refine e_op H rfl rfl (by decide) (x_binI H rfl rfl rfl (b_eql (b := true) (rfl))) ?_
            clear H a; intro a H
            refine e_op H rfl rfl (by decide) (x_assign H rfl rfl) ?_
            clear H a; intro a H
            refine e_nil (hR.out _ _ ?_)
            clear hR R
            refine hK20 _ _ ?_
            clear hK20 K20
            refine wp_ret ?_
            refine b_ret ?_
            refine t_ret ?_
            exact ret1 H rfl rfl ⟨rfl, _, _, D10, K1.got _ h3 k hkc h4, E10⟩
        · skip
          rcases hct : (!st || decide (kd % 10 = 6)) with _ | _
          · skip
            rw [hct] at H
            refine c_false H rfl ?_
            refine wp_skip ?_
            exact ⟨rfl, H.sub ⟨rfl, rfl, rfl, rfl, rfl, trivial⟩, V, p, D, KK, rfl, rfl, hOp, M0, E1⟩
          · skip
            rw [hct] at H
            refine c_true H rfl ?_
            refine wp_seq_k (fun K21 hK21 => ?_)
            obtain ⟨w4, hw4⟩ : ∃ x_, x_ = w3.drew := ⟨_, rfl⟩
            have Ew4 : Ext w3 w4 := by rw [hw4]; exact (Ext.refl _).dr
            have D4 := D.ext Ew4
            have E4 := E1.tr Ew4
            have M4 := M0.ext Ew4
            have Op4 := hOp.ext_ Ew4
            have Qf : Rw w4 wB.heap.size 22 (.slice (some ⟨fg, fo, none⟩) V.xf.length fc) V.xf := RF.ext Ew4
            have onef := D4.ef.cells1
            refine y_start (fun w' => Blk w' gw 158 (wCells gs gr V)) 19 (by kernel_rfl) (fun R hR => ?_)
            rw [← hw4]
            refine y_take 0 H rfl (wanted_none rfl) rfl (by decide) (by kernel_rfl) (by kernel_rfl) (by kernel_rfl) rfl (by kernel_rfl) (by decide) D4.blk (fun w' hSw => (x_move H rfl rfl)) ?_
            clear H a; intro a H
            refine y_take 2 H rfl (wanted_none rfl) rfl (by decide) (by kernel_rfl) (by kernel_rfl) (by kernel_rfl) rfl (by kernel_rfl) (by decide) D4.blk (fun w' hSw => (x_move H rfl rfl)) ?_
            clear H a; intro a H
            refine y_take 3 H rfl (wanted_none rfl) rfl (by decide) (by kernel_rfl) (by kernel_rfl) (by kernel_rfl) rfl (by kernel_rfl) (by decide) D4.blk (fun w' hSw => (x_nilCheck H rfl rfl)) ?_
            clear H a; intro a H
            refine y_take 4 H rfl (wanted_none rfl) rfl (by decide) (by kernel_rfl) (by kernel_rfl) (by kernel_rfl) rfl (by kernel_rfl) (by decide) D4.blk (fun w' hSw => (x_fieldAddr H rfl rfl (fa158_4 _ _))) ?_
            clear H a; intro a H
            refine y_take 5 H rfl (wanted_none rfl) rfl (by decide) (by kernel_rfl) (by kernel_rfl) (by kernel_rfl) rfl (by kernel_rfl) (by decide) D4.blk (fun w' hSw => (x_load H rfl rfl (l_cell (v := .slice (some ⟨fg, fo, none⟩) V.xf.length fc) Try.isAgg37 (hSw.at_ (i := 5) (by rw [← hvf]; rfl))))) ?_
            clear H a; intro a H
            refine y_take 6 H rfl (wanted_none rfl) rfl (by decide) (by kernel_rfl) (by kernel_rfl) (by kernel_rfl) rfl (by kernel_rfl) (by decide) D4.blk (fun w' hSw => (x_move H rfl rfl)) ?_
            clear H a; intro a H
            refine y_take 7 H rfl (wanted_none rfl) rfl (by decide) (by kernel_rfl) (by kernel_rfl) (by kernel_rfl) rfl (by kernel_rfl) (by decide) D4.blk (fun w' hSw => (x_slice H rfl rfl rfl rfl (sl_hi (hi := i) Try.underlying37 Try.sizeOf22 rfl (by omega)))) ?_
            clear H a; intro a H
            refine y_take 9 H rfl (wanted_none rfl) rfl (by decide) (by kernel_rfl) (by kernel_rfl) (by kernel_rfl) rfl (by kernel_rfl) (by decide) D4.blk (fun w' hSw => (x_move H rfl rfl)) ?_
            clear H a; intro a H
            refine y_take 10 H rfl (wanted_none rfl) rfl (by decide) (by kernel_rfl) (by kernel_rfl) (by kernel_rfl) rfl (by kernel_rfl) (by decide) D4.blk (fun w' hSw => (x_nilCheck H rfl rfl)) ?_
            clear H a; intro a H
            refine y_take 11 H rfl (wanted_none rfl) rfl (by decide) (by kernel_rfl) (by kernel_rfl) (by kernel_rfl) rfl (by kernel_rfl) (by decide) D4.blk (fun w' hSw => (x_fieldAddr H rfl rfl (fa158_4 _ _))) ?_
            clear H a; intro a H
            refine y_take 12 H rfl (wanted_none rfl) rfl (by decide) (by kernel_rfl) (by kernel_rfl) (by kernel_rfl) rfl (by kernel_rfl) (by decide) D4.blk (fun w' hSw => (x_load H rfl rfl (l_cell (v := .slice (some ⟨fg, fo, none⟩) V.xf.length fc) Try.isAgg37 (hSw.at_ (i := 5) (by rw [← hvf]; rfl))))) ?_
            clear H a; intro a H
            refine y_take 13 H rfl (wanted_none rfl) rfl (by decide) (by kernel_rfl) (by kernel_rfl) (by kernel_rfl) rfl (by kernel_rfl) (by decide) D4.blk (fun w' hSw => (x_move H rfl rfl)) ?_
            clear H a; intro a H
            refine y_take 14 H rfl (wanted_none rfl) rfl (by decide) (by kernel_rfl) (by kernel_rfl) (by kernel_rfl) rfl (by kernel_rfl) (by decide) D4.blk (fun w' hSw => (x_binI H rfl rfl rfl (b_add (z := ((i + 1 : Nat) : Int)) (by rw [IntKind.wrap_i64]; omega)))) ?_
            clear H a; intro a H
            refine y_take 15 H rfl (wanted_none rfl) rfl (by decide) (by kernel_rfl) (by kernel_rfl) (by kernel_rfl) rfl (by kernel_rfl) (by decide) D4.blk (fun w' hSw => (x_slice H rfl rfl rfl rfl (sl_lo (lo := i + 1) Try.underlying37 Try.sizeOf22 rfl (by omega)))) ?_
            clear H a; intro a H
            refine y_op 1 H rfl (by kernel_rfl) (wanted_none rfl) rfl (by decide) (x_buildSlice H rfl rfl (bs37z _)) (D4.blk.ext ((Ext.refl _).al _)) ?_
            clear H a; intro a H
            have Xf := (Ext.refl w4).al (.cells #[] 22)
            have Nf : Rw (w4.alloc (.cells #[] 22)) w4.heap.size 22 (.slice (some ⟨w4.heap.size, 0, none⟩) 0 0) [] := Rw.new w4 w4.heap.size 22 [] (Nat.le_refl _) (by simp)
            obtain ⟨waf, hwaf⟩ : ∃ x, x = w4.alloc (.cells #[] 22) := ⟨_, rfl⟩
            rw [← hwaf] at Xf Nf ⊢
            obtain ⟨uf, wbf, hrf, Rf, Gf, hbf⟩ := Rw.app el37 waf 37 w4.heap.size Nf ((Qf.ext Xf).pre i (by omega)) (fun u hu => onef u (List.mem_of_mem_take hu)) (by rw [List.length_take, List.length_nil]; omega) (by omega) Xf.sz
            rw [List.nil_append] at Rf
            have Yf : Ext w4 wbf := Xf.grown Gf (fun k hk => (Nf.blk k hk).1)
            obtain ⟨vf, wcf, hsf, Tf, If, hcf⟩ := Rw.app el37 wbf 37 w4.heap.size Rf ((Qf.ext Yf).cut (i + 1) (by omega)) (fun u hu => onef u (List.mem_of_mem_drop hu)) (by rw [List.length_take, List.length_drop]; omega) (by omega) Yf.sz
            have Zf : Ext w4 wcf := Yf.grown If (fun k hk => (Rf.blk k hk).1)
            have ownf := own_two (s := w4.heap.size) rfl hbf hcf Xf.sz Yf.sz
            obtain ⟨amf, cmf, rfl, _⟩ := Rf.shape
            obtain ⟨anf, cnf, rfl, _⟩ := Tf.shape
            refine y_op 8 H rfl (by kernel_rfl) (wanted_none rfl) rfl (by decide) (x_builtin H rfl rfl (fun cs => bi_app hrf)) ((D4.ext Yf).blk) ?_
            clear H a; intro a H
            refine y_op 16 H rfl (by kernel_rfl) (wanted_none rfl) rfl (by decide) (x_builtin H rfl rfl (fun cs => bi_app hsf)) ((D4.ext Zf).blk) ?_
            clear H a; intro a H
            refine y_op 17 H rfl (by kernel_rfl) (wanted_none rfl) rfl (by decide) (x_nilCheck H rfl rfl) ((D4.ext Zf).blk) ?_
            clear H a; intro a H
            refine y_take 18 H rfl (wanted_none rfl) rfl (by decide) (by kernel_rfl) (by kernel_rfl) (by kernel_rfl) rfl (by kernel_rfl) (by decide) (D4.ext Zf).blk (fun w' hSw => (x_fieldAddr H rfl rfl (fa158_4 _ _))) ?_
            clear H a; intro a H
            refine y_last H rfl (by kernel_rfl) (wanted_none rfl) rfl (x_store H rfl rfl rfl (st_cell rfl rfl Try.sizeOf37 ((D4.ext Zf).blk.frozen _) ((D4.ext Zf).blk.isSome 5 (by simp [wCells])))) ?_
            have D5 := D4.setF (fw := p.fwd.take i ++ p.fwd.drop (i + 1)) Zf.frm (Tf.mono E4.sz) (.inr ownf) (((((D4.ef.ext Zf).tk i).app ((D4.ef.ext Zf).dp (i + 1))).as (by rw [List.map_append, List.map_take, List.map_drop]))) (fun k hk u hu => (List.mem_append.1 hu).elim (fun hu => (D4.dsep k hk).2.2.1 u (List.mem_of_mem_take hu)) (fun hu => (D4.dsep k hk).2.2.1 u (List.mem_of_mem_drop hu)))
            have F5 := frm_set (Zf.frm (s := V.vf.ownBlock.toList)) gw 5 (.slice anf (V.xf.take i ++ V.xf.drop (i + 1)).length cnf)
            have T5 : ∀ t, t ≠ 158 → t ≠ 22 → Ty w4 (V.vf.ownBlock.toList ++ [gw]) t := fun t h1 h2 => (Ty.row D4.rf (fun e => h2 e.symm)).app (Ty.blk D4.blk (fun e => h1 e.symm))
            have E5 := F5.ext E4 (row_ge D4.rf D4.low)
            have Op5 := Op4.ty F5 (T5 5 (by decide) (by decide))
            have M5 := M4.ty F5 (T5 168 (by decide) (by decide))
            generalize wcf.setCell ⟨gw, 5, none⟩ (.slice anf (V.xf.take i ++ V.xf.drop (i + 1)).length cnf) = w5 at *
            refine y_done (by kernel_rfl) (hR.out _ _ ?_)
            clear hR R
            refine hK21 _ _ ?_
            clear hK21 K21
            obtain ⟨w6, hw6⟩ : ∃ x_, x_ = w5.drew := ⟨_, rfl⟩
            have Ew6 : Ext w5 w6 := by rw [hw6]; exact (Ext.refl _).dr
            have D6 := D5.ext Ew6
            have E6 := E5.tr Ew6
            have M6 := M5.ext Ew6
            have Op6 := Op5.ext_ Ew6
            have Qc : Rw w6 wB.heap.size 3 (.slice (some ⟨cg, co, none⟩) (ints p.cks).length cc) (ints p.cks) := hvc ▸ D6.rc
            have onec := ints_one p.cks
            refine y_start (fun w' => Blk w' gw 158 (wCells gs gr { V with vf := .slice anf (V.xf.take i ++ V.xf.drop (i + 1)).length cnf, xf := V.xf.take i ++ V.xf.drop (i + 1) })) 19 (by kernel_rfl) (fun R hR => ?_)
            rw [← hw6]
            refine y_take 0 H rfl (wanted_none rfl) rfl (by decide) (by kernel_rfl) (by kernel_rfl) (by kernel_rfl) rfl (by kernel_rfl) (by decide) D6.blk (fun w' hSw => (x_move H rfl rfl)) ?_
            clear H a; intro a H
            refine y_take 2 H rfl (wanted_none rfl) rfl (by decide) (by kernel_rfl) (by kernel_rfl) (by kernel_rfl) rfl (by kernel_rfl) (by decide) D6.blk (fun w' hSw => (x_move H rfl rfl)) ?_
            clear H a; intro a H
            refine y_take 3 H rfl (wanted_none rfl) rfl (by decide) (by kernel_rfl) (by kernel_rfl) (by kernel_rfl) rfl (by kernel_rfl) (by decide) D6.blk (fun w' hSw => (x_nilCheck H rfl rfl)) ?_
            clear H a; intro a H
            refine y_take 4 H rfl (wanted_none rfl) rfl (by decide) (by kernel_rfl) (by kernel_rfl) (by kernel_rfl) rfl (by kernel_rfl) (by decide) D6.blk (fun w' hSw => (x_fieldAddr H rfl rfl (fa158_5 _ _))) ?_
            clear H a; intro a H
            refine y_take 5 H rfl (wanted_none rfl) rfl (by decide) (by kernel_rfl) (by kernel_rfl) (by kernel_rfl) rfl (by kernel_rfl) (by decide) D6.blk (fun w' hSw => (x_load H rfl rfl (l_cell (v := .slice (some ⟨cg, co, none⟩) (ints p.cks).length cc) Try.isAgg155 (hSw.at_ (i := 6) (by rw [← hvc]; rfl))))) ?_
            clear H a; intro a H
            refine y_take 6 H rfl (wanted_none rfl) rfl (by decide) (by kernel_rfl) (by kernel_rfl) (by kernel_rfl) rfl (by kernel_rfl) (by decide) D6.blk (fun w' hSw => (x_move H rfl rfl)) ?_
            clear H a; intro a H
            refine y_take 7 H rfl (wanted_none rfl) rfl (by decide) (by kernel_rfl) (by kernel_rfl) (by kernel_rfl) rfl (by kernel_rfl) (by decide) D6.blk (fun w' hSw => (x_slice H rfl rfl rfl rfl (sl_hi (hi := i) Try.underlying155 Try.sizeOf3 rfl (by omega)))) ?_
            clear H a; intro a H
            refine y_take 9 H rfl (wanted_none rfl) rfl (by decide) (by kernel_rfl) (by kernel_rfl) (by kernel_rfl) rfl (by kernel_rfl) (by decide) D6.blk (fun w' hSw => (x_move H rfl rfl)) ?_
            clear H a; intro a H
            refine y_take 10 H rfl (wanted_none rfl) rfl (by decide) (by kernel_rfl) (by kernel_rfl) (by kernel_rfl) rfl (by kernel_rfl) (by decide) D6.blk (fun w' hSw => (x_nilCheck H rfl rfl)) ?_
            clear H a; intro a H
            refine y_take 11 H rfl (wanted_none rfl) rfl (by decide) (by kernel_rfl) (by kernel_rfl) (by kernel_rfl) rfl (by kernel_rfl) (by decide) D6.blk (fun w' hSw => (x_fieldAddr H rfl rfl (fa158_5 _ _))) ?_
            clear H a; intro a H
            refine y_take 12 H rfl (wanted_none rfl) rfl (by decide) (by kernel_rfl) (by kernel_rfl) (by kernel_rfl) rfl (by kernel_rfl) (by decide) D6.blk (fun w' hSw => (x_load H rfl rfl (l_cell (v := .slice (some ⟨cg, co, none⟩) (ints p.cks).length cc) Try.isAgg155 (hSw.at_ (i := 6) (by rw [← hvc]; rfl))))) ?_
            clear H a; intro a H
            refine y_take 13 H rfl (wanted_none rfl) rfl (by decide) (by kernel_rfl) (by kernel_rfl) (by kernel_rfl) rfl (by kernel_rfl) (by decide) D6.blk (fun w' hSw => (x_move H rfl rfl)) ?_
            clear H a; intro a H
            refine y_take 14 H rfl (wanted_none rfl) rfl (by decide) (by kernel_rfl) (by kernel_rfl) (by kernel_rfl) rfl (by kernel_rfl) (by decide) D6.blk (fun w' hSw => (x_binI H rfl rfl rfl (b_add (z := ((i + 1 : Nat) : Int)) (by rw [IntKind.wrap_i64]; omega)))) ?_
            clear H a; intro a H
            refine y_take 15 H rfl (wanted_none rfl) rfl (by decide) (by kernel_rfl) (by kernel_rfl) (by kernel_rfl) rfl (by kernel_rfl) (by decide) D6.blk (fun w' hSw => (x_slice H rfl rfl rfl rfl (sl_lo (lo := i + 1) Try.underlying155 Try.sizeOf3 rfl (by omega)))) ?_
            clear H a; intro a H
            refine y_op 1 H rfl (by kernel_rfl) (wanted_none rfl) rfl (by decide) (x_buildSlice H rfl rfl (bs155z _)) (D6.blk.ext ((Ext.refl _).al _)) ?_
            clear H a; intro a H
            have Xc := (Ext.refl w6).al (.cells #[] 3)
            have Nc : Rw (w6.alloc (.cells #[] 3)) w6.heap.size 3 (.slice (some ⟨w6.heap.size, 0, none⟩) 0 0) [] := Rw.new w6 w6.heap.size 3 [] (Nat.le_refl _) (by simp)
            obtain ⟨wac, hwac⟩ : ∃ x, x = w6.alloc (.cells #[] 3) := ⟨_, rfl⟩
            rw [← hwac] at Xc Nc ⊢
            obtain ⟨uc, wbc, hrc, Rc, Gc, hbc⟩ := Rw.app el155 wac 155 w6.heap.size Nc ((Qc.ext Xc).pre i (by omega)) (fun u hu => onec u (List.mem_of_mem_take hu)) (by rw [List.length_take, List.length_nil]; omega) (by omega) Xc.sz
            rw [List.nil_append] at Rc
            have Yc : Ext w6 wbc := Xc.grown Gc (fun k hk => (Nc.blk k hk).1)
            obtain ⟨vc, wcc, hsc, Tc, Ic, hcc⟩ := Rw.app el155 wbc 155 w6.heap.size Rc ((Qc.ext Yc).cut (i + 1) (by omega)) (fun u hu => onec u (List.mem_of_mem_drop hu)) (by rw [List.length_take, List.length_drop]; omega) (by omega) Yc.sz
            have Zc : Ext w6 wcc := Yc.grown Ic (fun k hk => (Rc.blk k hk).1)
            have ownc := own_two (s := w6.heap.size) rfl hbc hcc Xc.sz Yc.sz
            obtain ⟨amc, cmc, rfl, _⟩ := Rc.shape
            obtain ⟨anc, cnc, rfl, _⟩ := Tc.shape
            refine y_op 8 H rfl (by kernel_rfl) (wanted_none rfl) rfl (by decide) (x_builtin H rfl rfl (fun cs => bi_app hrc)) ((D6.ext Yc).blk) ?_
            clear H a; intro a H
            refine y_op 16 H rfl (by kernel_rfl) (wanted_none rfl) rfl (by decide) (x_builtin H rfl rfl (fun cs => bi_app hsc)) ((D6.ext Zc).blk) ?_
            clear H a; intro a H
            refine y_op 17 H rfl (by kernel_rfl) (wanted_none rfl) rfl (by decide) (x_nilCheck H rfl rfl) ((D6.ext Zc).blk) ?_
            clear H a; intro a H
            refine y_take 18 H rfl (wanted_none rfl) rfl (by decide) (by kernel_rfl) (by kernel_rfl) (by kernel_rfl) rfl (by kernel_rfl) (by decide) (D6.ext Zc).blk (fun w' hSw => (x_fieldAddr H rfl rfl (fa158_5 _ _))) ?_
            clear H a; intro a H
            refine y_last H rfl (by kernel_rfl) (wanted_none rfl) rfl (x_store H rfl rfl rfl (st_cell rfl rfl Try.sizeOf155 ((D6.ext Zc).blk.frozen _) ((D6.ext Zc).blk.isSome 6 (by simp [wCells])))) ?_
            have D7 := D6.setC (ck := p.cks.take i ++ p.cks.drop (i + 1)) Zc.frm ((Tc.mono E6.sz).as (by simp [ints, List.map_take, List.map_drop]))
            have F7 := frm_set (Zc.frm (s := V.vc.ownBlock.toList)) gw 6 (.slice anc ((ints p.cks).take i ++ (ints p.cks).drop (i + 1)).length cnc)
            have T7 : ∀ t, t ≠ 158 → t ≠ 3 → Ty w6 (V.vc.ownBlock.toList ++ [gw]) t := fun t h1 h2 => (Ty.row D6.rc (fun e => h2 e.symm)).app (Ty.blk D6.blk (fun e => h1 e.symm))
            have E7 := F7.ext E6 (row_ge D6.rc D6.low)
            have Op7 := Op6.ty F7 (T7 5 (by decide) (by decide))
            have M7 := M6.ty F7 (T7 168 (by decide) (by decide))
            refine y_done (by kernel_rfl) (hR.out _ _ ?_)
            clear hR R
            exact ⟨rfl, H.sub ⟨rfl, rfl, rfl, rfl, rfl, trivial⟩, _, _, D7, KK.drop_ i, rfl, rfl, Op7, M7, E7⟩
      · skip
        rcases (show st = false ∨ (st = true ∧ kd % 10 = 6) ∨ (st = true ∧ kd % 10 ≠ 6) by cases st <;> simp <;> omega) with hst | ⟨hst, h6⟩ | ⟨hst, h6⟩
        · skip
          skip
          refine e_region (fun R hR => ?_)
          refine e_op H rfl rfl (by decide) (x_fieldAddr H rfl rfl (fa168_2 _ _)) ?_
          clear H a; intro a H
          refine e_op H rfl rfl (by decide) (x_load H rfl rfl (l_cell (v := .bool false) Try.isAgg4 (M0.at_ (i := 2) (by rw [hst]; rfl)))) ?_
          clear H a; intro a H
          refine e_op H rfl rfl (by decide) (x_un H rfl rfl (u_not (c := true) rfl)) ?_
          clear H a; intro a H
          refine e_op H rfl rfl (by decide) (x_move H rfl rfl) ?_
          clear H a; intro a H
          refine e_skip H (wanted_false H rfl rfl rfl rfl) rfl (by decide) ?_
          clear H a; intro a H
          refine e_skip H (wanted_false H rfl rfl rfl rfl) rfl (by decide) ?_
          clear H a; intro a H
          refine e_op H rfl rfl (by decide) (x_pickT H rfl rfl rfl) ?_
          clear H a; intro a H
          refine e_nil (hR.out _ _ ?_)
          clear hR R
          refine ⟨rfl, H.sub ⟨rfl, rfl, rfl, rfl, rfl, rfl, (by rw [hst]; rfl), trivial⟩, rfl⟩
        · skip
          skip
          refine e_region (fun R hR => ?_)
          refine e_op H rfl rfl (by decide) (x_fieldAddr H rfl rfl (fa168_2 _ _)) ?_
          clear H a; intro a H
          refine e_op H rfl rfl (by decide) (x_load H rfl rfl (l_cell (v := .bool true) Try.isAgg4 (M0.at_ (i := 2) (by rw [hst]; rfl)))) ?_
          clear H a; intro a H
          refine e_op H rfl rfl (by decide) (x_un H rfl rfl (u_not (c := false) rfl)) ?_
          clear H a; intro a H
          refine e_op H rfl rfl (by decide) (x_move H rfl rfl) ?_
          clear H a; intro a H
          refine e_opg H (wanted_true H rfl rfl rfl rfl) rfl (by decide) (x_move H rfl rfl) ?_
          clear H a; intro a H
          refine e_opg H (wanted_true H rfl rfl rfl rfl) rfl (by decide) (x_binI H rfl rfl rfl (b_eql (b := true) (beq_t (by omega)))) ?_
          clear H a; intro a H
          refine e_op H rfl rfl (by decide) (x_pickF H rfl rfl rfl) ?_
          clear H a; intro a H
          refine e_nil (hR.out _ _ ?_)
          clear hR R
          refine ⟨rfl, H.sub ⟨rfl, rfl, rfl, rfl, rfl, rfl, (by rw [hst, decide_eq_true h6]; rfl), trivial⟩, rfl⟩
        · skip
          skip
          refine e_region (fun R hR => ?_)
          refine e_op H rfl rfl (by decide) (x_fieldAddr H rfl rfl (fa168_2 _ _)) ?_
          clear H a; intro a H
          refine e_op H rfl rfl (by decide) (x_load H rfl rfl (l_cell (v := .bool true) Try.isAgg4 (M0.at_ (i := 2) (by rw [hst]; rfl)))) ?_
          clear H a; intro a H
          refine e_op H rfl rfl (by decide) (x_un H rfl rfl (u_not (c := false) rfl)) ?_
          clear H a; intro a H
          refine e_op H rfl rfl (by decide) (x_move H rfl rfl) ?_
          clear H a; intro a H
          refine e_opg H (wanted_true H rfl rfl rfl rfl) rfl (by decide) (x_move H rfl rfl) ?_
          clear H a; intro a H
          refine e_opg H (wanted_true H rfl rfl rfl rfl) rfl (by decide) (x_binI H rfl rfl rfl (b_eql (b := false) (beq_f (by omega)))) ?_
          clear H a; intro a H
          refine e_op H rfl rfl (by decide) (x_pickF H rfl rfl rfl) ?_
          clear H a; intro a H
          refine e_nil (hR.out _ _ ?_)
          clear hR R
          refine ⟨rfl, H.sub ⟨rfl, rfl, rfl, rfl, rfl, rfl, (by rw [hst, decide_eq_false h6]; rfl), trivial⟩, rfl⟩
end Go.Proofs.Ytknllmcpogoeoaa
