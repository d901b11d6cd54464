/- TransferRefuses, walked. -/
import Derived.Test.YtknllmcpogoeoaaT16
namespace Go.Proofs.Ytknllmcpogoeoaa
open Go.RowKit
set_option linter.unusedVariables false
set_option linter.unusedSimpArgs false
set_option maxRecDepth 100000
theorem Snd.ack_same (s : Snd) (p : List UInt8) : (s.ack p).2.id = s.id ∧ (s.ack p).2.file = s.file := by
  unfold Snd.ack
  split
  · exact ⟨rfl, rfl⟩
  · split
    · exact ⟨rfl, rfl⟩
    · split
      · exact ⟨rfl, rfl⟩
      · split
        · exact ⟨rfl, rfl⟩
        · split <;> exact ⟨rfl, rfl⟩
theorem opn_ack (id : Nat) (l : List Bool) (hid : id < 4294967296) : (rdPk (ackP id l)).err = 6 := by
  have h := ackP_len id l hid
  unfold rdPk ackP
  rw [opn_other 2 1 0 _ (by omega) (by omega) (by omega)]
  rw [if_pos (by simp)]
theorem opn_pkt (id : Nat) (file : List UInt8) (i : Nat) (s : Snd) (hid : id < 4294967296) (hf : file.length ≤ 65535) (hi : i < 1024) : s.ack (pkt id file i) = (6, s) := by
  have h := pktB_len id file i hid hf hi
  unfold Snd.ack pkt
  unfold pktB at h ⊢
  rw [opn_other 1 2 0 _ (by omega) (by omega) (by omega), if_pos (by simp)]
theorem p0_sn (id : Nat) (file : List UInt8) : (p0 id file).s = ⟨id, file, noMarks⟩ := rfl
theorem isAgg148_ (w : World) : (isAgg 148).run Try.prog w = .ok true w := by kernel_rfl
theorem size148_ (w : World) : (sizeOf 148).run Try.prog w = .ok 2 w := by kernel_rfl
theorem ld_file {w : World} {g : Nat} {a : Option Addr} {n c : Nat} {t : Int} (h : Blk w g 148 [.slice a n c, .int .u8 t]) : (Instr.loadAt 148 (.pointer (some ⟨g, 0, none⟩))).run Try.prog w = .ok (.agg #[.slice a n c, .int .u8 t]) w :=
  l_part (cs := [.slice a n c, .int .u8 t]) isAgg148_ size148_ (fun j v hv => by rw [h.cell, Nat.zero_add]; exact hv)
theorem bytesG_any (ad : Option Addr) (n c : Nat) (p : List UInt8) (t : Nat) (fb : List UInt8) (hfb : fb = fileB p t) (w0 : World) (hb : Bs w0 ad n p) (hz : ad = none → c = 0) (hn : n ≤ 140737488351232) (ht8 : t ≤ 255) :
    Calls Try.prog 98 #[.agg #[.slice ad n c, .int .u8 (t : Int)]] w0 fun e w' => ∃ a c', e = .returned (.slice a fb.length c') ∧ Ow w' w0.heap.size a fb.length c' fb ∧ Ext w0 w' := by
  subst hfb
  exact bytesF_any ad n c p t w0 hb hz hn ht8
theorem unm_first (n : Nat) (hn : 1 ≤ n) : ∃ r, (unm (gb noMarks) n).take 8 = 0 :: r := by
  obtain ⟨r, hr⟩ := unm_pre (gb noMarks) n 1 hn
  have h1 : unm (gb noMarks) 1 = [0] := by rw [unm_no]; decide
  rw [hr, h1]
  exact ⟨r.take 7, rfl⟩
/-- a run of Out at a play's beginning -/
theorem out_first (id : Nat) (file : List UInt8) : ∃ r, ((unm (gb (p0 id file).s.acked) (chunksT (p0 id file).s.file.length)).take 8).map (pkt (p0 id file).s.id (p0 id file).s.file) = pkt id file 0 :: r := by
  obtain ⟨r, hr⟩ := unm_first (chunksT file.length) (chunksT_pos _)
  refine ⟨r.map (pkt id file), ?_⟩
  show ((unm (gb noMarks) (chunksT file.length)).take 8).map (pkt id file) = _
  rw [hr]; rfl
set_option maxHeartbeats 16000000 in
theorem transferRefuses_any (ad : Option Addr) (n c : Nat) (f : List UInt8) (t : Nat) (pa : Option Addr) (pn pc : Nat) (pl : List UInt8) (o : Nat) (w0 : World) (hb : Bs w0 ad n f) (hz : ad = none → c = 0) (hn : n ≤ 140737488351232) (htt : t ≤ 255)
    (hp : Bs w0 pa pn pl) (hpz : pa = none → pc = 0) (hpc : pn ≤ pc) (hpn : pn ≤ 140737488351232) (ho : o ≤ 4294967295) :
    Calls Try.prog 27 #[.agg #[.slice ad n c, .int .u8 (t : Int)], .slice pa pn pc, .int .u32 (o : Int)] w0 fun e w' => e = .returned (.bool true) ∧ Ext w0 w' := by
  obtain ⟨fb, hfb⟩ : ∃ fb, fb = fileB f t := ⟨_, rfl⟩
  have hfl := fileB_len f t
  rw [← hfb] at hfl
  refine calls_has (args := [.agg #[.slice ad n c, .int .u8 (t : Int)], .slice pa pn pc, .int .u32 (o : Int)]) Try.func27 rfl Try.ntmps27 (Nat.le_of_ble_eq_true rfl) (fun a H => ?_)
  simp only [argl, Nat.reduceAdd] at H
  refine wp_seq_k (fun K1 hK1 => ?_)
  refine e_region (fun R hR => ?_)
  refine e_op H rfl rfl (by decide) (x_box H rfl rfl bx_new) ?_
  clear H a; intro a H
  have T3 := Blk.new w0 148 [.slice ad n c, .int .u8 (t : Int)]
  have E01 := (Ext.refl w0).al (.cells #[.slice ad n c, .int .u8 (t : Int)] 148)
  obtain ⟨g3, hg3⟩ : ∃ g, g = w0.heap.size := ⟨_, rfl⟩
  rw [← hg3] at H T3
  generalize w0.alloc (.cells #[.slice ad n c, .int .u8 (t : Int)] 148) = w1 at *
  refine e_op H rfl rfl (by decide) (x_assign H rfl rfl) ?_
  clear H a; intro a H
  refine e_nil (hR.out _ _ ?_)
  clear hR R
  refine hK1 _ _ ?_
  clear hK1 K1
  refine wp_seq_k (fun K2 hK2 => ?_)
  refine wp_seq_k (fun K3 hK3 => ?_)
  refine e_region (fun R hR => ?_)
  refine e_callq H rfl rfl (by decide) rfl rfl (Try.call51 _) (awake_any w1) ?_
  clear H a
  rintro e w2 ⟨rfl, E⟩
  refine ⟨_, rfl, fun a H => ?_⟩
  refine e_op H rfl rfl (by decide) (x_un H rfl rfl (u_not (c := false) (rfl))) ?_
  clear H a; intro a H
  refine e_nil (hR.out _ _ ?_)
  clear hR R
  refine hK3 _ _ ?_
  clear hK3 K3
  refine c_false H rfl ?_
  refine wp_skip ?_
  refine hK2 _ _ ?_
  clear hK2 K2
  refine wp_seq_k (fun K4 hK4 => ?_)
  refine e_region (fun R hR => ?_)
  refine e_op H rfl rfl (by decide) (x_load H rfl rfl (ld_file (T3.ext E))) ?_
  clear H a; intro a H
  refine e_callq H rfl rfl (by decide) rfl rfl (Try.call98 _) (bytesG_any ad n c f t fb hfb w2 (E.bs (E01.bs hb)) hz hn htt) ?_
  clear H a
  rintro e w3 ⟨fa, fc, rfl, OF, E3⟩
  refine ⟨_, rfl, fun a H => ?_⟩
  replace OF := OF.mono E.sz
  replace E := E.tr E3
  refine e_callq H rfl rfl (by decide) rfl rfl (Try.call97 _) (begin_any w1.heap.size 5 fa fb.length fc fb w3 OF E.sz (by omega) (by omega)) ?_
  clear H a
  rintro e w4 ⟨gw, gs, gr, V, rfl, D, h1, h2, h3, hvl, E4⟩
  refine ⟨_, rfl, fun a H => ?_⟩
  replace E := E.tr E4
  refine e_op H rfl rfl (by decide) (x_assign H rfl rfl) ?_
  clear H a; intro a H
  refine e_nil (hR.out _ _ ?_)
  clear hR R
  refine hK4 _ _ ?_
  clear hK4 K4
  refine wp_seq_k (fun K5 hK5 => ?_)
  refine wp_seq_k (fun K6 hK6 => ?_)
  refine e_region (fun R hR => ?_)
  refine e_op H rfl rfl (by decide) (x_move H rfl rfl) ?_
  clear H a; intro a H
  refine e_op H rfl rfl (by decide) (x_bin H rfl rfl rfl (by rw [eqGuard_at_pointer]; rfl) (b_pnil (c := false) Try.underlying149 rfl)) ?_
  clear H a; intro a H
  refine e_nil (hR.out _ _ ?_)
  clear hR R
  refine hK6 _ _ ?_
  clear hK6 K6
  refine c_false H rfl ?_
  refine wp_skip ?_
  refine hK5 _ _ ?_
  clear hK5 K5
  refine wp_seq_k (fun K7 hK7 => ?_)
  refine e_region (fun R hR => ?_)
  refine e_op H rfl rfl (by decide) (x_move H rfl rfl) ?_
  clear H a; intro a H
  refine e_op H rfl rfl (by decide) (x_nilCheck H rfl rfl) ?_
  clear H a; intro a H
  refine e_op H rfl rfl (by decide) (x_fieldAddr H rfl rfl (fa158_0 _ _)) ?_
  clear H a; intro a H
  refine e_op H rfl rfl (by decide) (x_load H rfl rfl (l_cell Try.isAgg64 (D.blk.at_ (i := 0) rfl))) ?_
  clear H a; intro a H
  refine e_callq H rfl rfl (by decide) rfl rfl (Try.call52 _) (out_any w1.heap.size gs V.vs (p0 5 fb).s w4 D.sn) ?_
  clear H a
  rintro e w5 ⟨vo, xs, rfl, RX, EX, Ex⟩
  have OO := Outs.of D.rv RX EX E.sz
  replace D := D.ext Ex
  replace E := E.tr Ex
  obtain ⟨oa, oc, rfl, _⟩ := RX.shape
  clear RX EX
  obtain ⟨rs, hrs⟩ := out_first 5 fb
  rw [hrs] at OO
  obtain ⟨go, oo, a0, c0, hoa, hpos, _, _, e0⟩ := OO.elem 0 _ rfl
  subst hoa
  have hO0 : ∀ {w : World} {vr : Value}, Outs w w1.heap.size vr (.slice (some ⟨go, oo, none⟩) xs.length oc) xs (pkt 5 fb 0 :: rs) → Ow w w1.heap.size a0 (pkt 5 fb 0).length c0 (pkt 5 fb 0) := fun h => by
    obtain ⟨a, c, h1, h2⟩ := h.els.at_ 0 _ rfl
    rw [e0] at h1
    simp only [Option.some.injEq, Value.slice.injEq] at h1
    obtain ⟨rfl, _, rfl⟩ := h1
    exact h2
  refine ⟨_, rfl, fun a H => ?_⟩
  refine e_op H rfl rfl (by decide) (x_assign H rfl rfl) ?_
  clear H a; intro a H
  refine e_nil (hR.out _ _ ?_)
  clear hR R
  refine hK7 _ _ ?_
  clear hK7 K7
  refine wp_seq_k (fun K8 hK8 => ?_)
  refine wp_seq_k (fun K9 hK9 => ?_)
  obtain ⟨wd, hwd⟩ : ∃ x_, x_ = w5.drew := ⟨_, rfl⟩
  have Ewd : Ext w5 wd := by rw [hwd]; exact (Ext.refl _).dr
  replace D := D.ext Ewd
  replace OO := OO.ext Ewd
  replace E := E.tr Ewd
  have HS : Blk wd gw 158 (wCells gs gr V) ∧ Rw wd w1.heap.size 22 (.slice (some ⟨go, oo, none⟩) xs.length oc) xs := ⟨D.blk, OO.row⟩
  refine g_start (fun w' => Blk w' gw 158 (wCells gs gr V) ∧ Rw w' w1.heap.size 22 (.slice (some ⟨go, oo, none⟩) xs.length oc) xs) (by kernel_rfl) (fun R hR => ?_)
  rw [← hwd]
  refine g_take 0 H rfl (wanted_none rfl) rfl (by decide) (by kernel_rfl) (by kernel_rfl) (by kernel_rfl) HS (fun w' hSw => (x_move H rfl rfl)) ?_
  clear H a; intro a H
  refine g_take 1 H rfl (wanted_none rfl) rfl (by decide) (by kernel_rfl) (by kernel_rfl) (by kernel_rfl) HS (fun w' hSw => (x_builtin H rfl rfl (fun cs => len_sl Try.underlying37))) ?_
  clear H a; intro a H
  refine g_take 2 H rfl (wanted_none rfl) rfl (by decide) (by kernel_rfl) (by kernel_rfl) (by kernel_rfl) HS (fun w' hSw => (x_binI H rfl rfl rfl (b_eql (b := false) (beq_f (by omega))))) ?_
  clear H a; intro a H
  refine g_take 3 H rfl (wanted_none rfl) rfl (by decide) (by kernel_rfl) (by kernel_rfl) (by kernel_rfl) HS (fun w' hSw => (x_move H rfl rfl)) ?_
  clear H a; intro a H
  refine g_take 4 H rfl (wanted_true H rfl rfl rfl rfl) rfl (by decide) (by kernel_rfl) (by kernel_rfl) (by kernel_rfl) HS (fun w' hSw => (x_move H rfl rfl)) ?_
  clear H a; intro a H
  refine g_take 5 H rfl (wanted_true H rfl rfl rfl rfl) rfl (by decide) (by kernel_rfl) (by kernel_rfl) (by kernel_rfl) HS (fun w' hSw => (x_nilCheck H rfl rfl)) ?_
  clear H a; intro a H
  refine g_take 6 H rfl (wanted_true H rfl rfl rfl rfl) rfl (by decide) (by kernel_rfl) (by kernel_rfl) (by kernel_rfl) HS (fun w' hSw => (x_fieldAddr H rfl rfl (fa158_1 _ _))) ?_
  clear H a; intro a H
  refine g_take 7 H rfl (wanted_true H rfl rfl rfl rfl) rfl (by decide) (by kernel_rfl) (by kernel_rfl) (by kernel_rfl) HS (fun w' hSw => (x_load H rfl rfl (l_cell Try.isAgg65 (hSw.1.at_ (i := 1) rfl)))) ?_
  clear H a; intro a H
  refine g_take 8 H rfl (wanted_true H rfl rfl rfl rfl) rfl (by decide) (by kernel_rfl) (by kernel_rfl) (by kernel_rfl) HS (fun w' hSw => (x_move H rfl rfl)) ?_
  clear H a; intro a H
  refine g_take 9 H rfl (wanted_true H rfl rfl rfl rfl) rfl (by decide) (by kernel_rfl) (by kernel_rfl) (by kernel_rfl) HS (fun w' hSw => (x_indexAddr H rfl rfl rfl (i_sl (m := 0) Try.underlying37 Try.sizeOf22 rfl (by omega)))) ?_
  clear H a; intro a H
  refine g_take 10 H rfl (wanted_true H rfl rfl rfl rfl) rfl (by decide) (by kernel_rfl) (by kernel_rfl) (by kernel_rfl) HS (fun w' hSw => (x_load H rfl rfl (l_cell Try.isAgg22 (hSw.2.cells 0 _ e0)))) ?_
  clear H a; intro a H
  refine g_call 11 H rfl (by kernel_rfl) (wanted_true H rfl rfl rfl rfl) rfl (by decide) rfl rfl (Try.call56 _) (in_play D (Rcv.of_new 5 fb) (by omega) (by omega) (i := 0) (chunksT_pos _) (hO0 OO).bs (ow_cap (hO0 OO)) (ow_le (hO0 OO))) ?_
  clear H a
  rintro e wn ⟨rfl, v1, r1, D1, K1, G1, F1, hw1⟩
  replace OO := OO.rcv D.rv F1 hw1
  replace E := F1.ext E (own_ge D)
  have hkn : r1.known = true := by
    cases h : r1.known with
    | true => rfl
    | false =>
      have h2 := (K1.empty h).2 0
      rw [G1] at h2
      simp at h2
  have HSn : Blk wn gw 158 (wCells gs gr V) ∧ Rw wn w1.heap.size 22 (.slice (some ⟨go, oo, none⟩) xs.length oc) xs := ⟨D1.blk, OO.row⟩
  refine ⟨_, rfl, HSn, fun a H => ?_⟩
  replace HS := HSn
  clear HSn
  refine g_take 12 H rfl (wanted_true H rfl rfl rfl rfl) rfl (by decide) (by kernel_rfl) (by kernel_rfl) (by kernel_rfl) HS (fun w' hSw => (x_binI H rfl rfl rfl (b_neq (b := false) (rfl)))) ?_
  clear H a; intro a H
  refine g_take 13 H rfl (wanted_none rfl) rfl (by decide) (by kernel_rfl) (by kernel_rfl) (by kernel_rfl) HS (fun w' hSw => (x_pickF H rfl rfl rfl)) ?_
  clear H a; intro a H
  refine g_done (by kernel_rfl) (hR.out _ _ ?_)
  clear hR R
  refine hK9 _ _ ?_
  clear hK9 K9
  refine c_false H rfl ?_
  refine wp_skip ?_
  refine hK8 _ _ ?_
  clear hK8 K8
  refine wp_seq_k (fun K10 hK10 => ?_)
  obtain ⟨we, hwe⟩ : ∃ x_, x_ = wn.drew := ⟨_, rfl⟩
  have Ewe : Ext wn we := by rw [hwe]; exact (Ext.refl _).dr
  replace D1 := D1.ext Ewe
  replace OO := OO.ext Ewe
  replace E := E.tr Ewe
  have FSq := Ext.refl we
  refine g_start (fun w' => Ext we w') (by kernel_rfl) (fun R hR => ?_)
  rw [← hwe]
  refine g_take 0 H rfl (wanted_none rfl) rfl (by decide) (by kernel_rfl) (by kernel_rfl) (by kernel_rfl) FSq (fun w' hSw => (x_move H rfl rfl)) ?_
  clear H a; intro a H
  refine g_take 1 H rfl (wanted_none rfl) rfl (by decide) (by kernel_rfl) (by kernel_rfl) (by kernel_rfl) FSq (fun w' hSw => (x_nilCheck H rfl rfl)) ?_
  clear H a; intro a H
  refine g_take 2 H rfl (wanted_none rfl) rfl (by decide) (by kernel_rfl) (by kernel_rfl) (by kernel_rfl) FSq (fun w' hSw => (x_fieldAddr H rfl rfl (fa158_1 _ _))) ?_
  clear H a; intro a H
  refine g_take 3 H rfl (wanted_none rfl) rfl (by decide) (by kernel_rfl) (by kernel_rfl) (by kernel_rfl) FSq (fun w' hSw => (x_load H rfl rfl (l_cell Try.isAgg65 ((D1.ext hSw).blk.at_ (i := 1) rfl)))) ?_
  clear H a; intro a H
  refine g_take 5 H rfl (wanted_none rfl) rfl (by decide) (by kernel_rfl) (by kernel_rfl) (by kernel_rfl) FSq (fun w' hSw => (x_move H rfl rfl)) ?_
  clear H a; intro a H
  refine g_take 6 H rfl (wanted_none rfl) rfl (by decide) (by kernel_rfl) (by kernel_rfl) (by kernel_rfl) FSq (fun w' hSw => (x_nilCheck H rfl rfl)) ?_
  clear H a; intro a H
  refine g_take 7 H rfl (wanted_none rfl) rfl (by decide) (by kernel_rfl) (by kernel_rfl) (by kernel_rfl) FSq (fun w' hSw => (x_fieldAddr H rfl rfl (fa158_0 _ _))) ?_
  clear H a; intro a H
  refine g_take 8 H rfl (wanted_none rfl) rfl (by decide) (by kernel_rfl) (by kernel_rfl) (by kernel_rfl) FSq (fun w' hSw => (x_load H rfl rfl (l_cell Try.isAgg64 ((D1.ext hSw).blk.at_ (i := 0) rfl)))) ?_
  clear H a; intro a H
  refine g_call 4 H rfl (by kernel_rfl) (wanted_none rfl) rfl (by decide) rfl rfl (Try.call57 _) (ack_any w1.heap.size gr v1 r1 we D1.rv) ?_
  clear H a
  rintro e wx ⟨ka, kc, rfl, OK, Ek⟩
  refine ⟨_, rfl, Ek, fun a H => ?_⟩
  refine g_call 9 H rfl (by kernel_rfl) (wanted_none rfl) rfl (by decide) rfl rfl (Try.call55 _) (left_any w1.heap.size gs V.vs ⟨5, fb, noMarks⟩ wx (D1.ext Ek).sn) ?_
  clear H a
  rintro e wy ⟨rfl, hwy⟩
  rw [hwy]
  refine ⟨_, rfl, Ek, fun a H => ?_⟩
  refine g_take 10 H rfl (wanted_none rfl) rfl (by decide) (by kernel_rfl) (by kernel_rfl) (by kernel_rfl) Ek (fun w' hSw => (x_assign H rfl rfl)) ?_
  clear H a; intro a H
  refine g_take 11 H rfl (wanted_none rfl) rfl (by decide) (by kernel_rfl) (by kernel_rfl) (by kernel_rfl) Ek (fun w' hSw => (x_assign H rfl rfl)) ?_
  clear H a; intro a H
  refine g_done (by kernel_rfl) (hR.out _ _ ?_)
  clear hR R
  replace D1 := D1.ext Ek
  replace OO := OO.ext Ek
  replace E := E.tr Ek
  refine hK10 _ _ ?_
  clear hK10 K10
  refine wp_seq_k (fun K11 hK11 => ?_)
  obtain ⟨wf, hwf⟩ : ∃ x_, x_ = wx.drew := ⟨_, rfl⟩
  have Ewf : Ext wx wf := by rw [hwf]; exact (Ext.refl _).dr
  replace D1 := D1.ext Ewf
  replace OO := OO.ext Ewf
  replace E := E.tr Ewf
  have FSq := Ext.refl wf
  replace OK := OK.ext_ Ewf
  have hacl := ackP_len r1.id r1.has (by rw [K1.id_]; omega)
  have hkal : (ackP r1.id r1.has).length ≤ 1000 := by unfold ackP; rw [tseal_len]; omega
  have hpkl := pkt_len 5 fb 0 (by omega) (by omega) (by omega)
  have hka : (r1.in_ (ackP r1.id r1.has)).1 = 6 := by
    have h := opn_ack r1.id r1.has (by rw [K1.id_]; omega)
    rw [Rcv.of_bad _ (by omega), h]
  have hkb : (⟨5, fb, noMarks⟩ : Snd).ack (pkt 5 fb 0) = (6, ⟨5, fb, noMarks⟩) := opn_pkt 5 fb 0 _ (by omega) (by omega) (by omega)
  refine g_start (fun w' => Ext wf w') (by kernel_rfl) (fun R hR => ?_)
  rw [← hwf]
  refine g_take 0 H rfl (wanted_none rfl) rfl (by decide) (by kernel_rfl) (by kernel_rfl) (by kernel_rfl) FSq (fun w' hSw => (x_move H rfl rfl)) ?_
  clear H a; intro a H
  refine g_take 1 H rfl (wanted_none rfl) rfl (by decide) (by kernel_rfl) (by kernel_rfl) (by kernel_rfl) FSq (fun w' hSw => (x_nilCheck H rfl rfl)) ?_
  clear H a; intro a H
  refine g_take 2 H rfl (wanted_none rfl) rfl (by decide) (by kernel_rfl) (by kernel_rfl) (by kernel_rfl) FSq (fun w' hSw => (x_fieldAddr H rfl rfl (fa158_1 _ _))) ?_
  clear H a; intro a H
  refine g_take 3 H rfl (wanted_none rfl) rfl (by decide) (by kernel_rfl) (by kernel_rfl) (by kernel_rfl) FSq (fun w' hSw => (x_load H rfl rfl (l_cell Try.isAgg65 ((D1.ext hSw).blk.at_ (i := 1) rfl)))) ?_
  clear H a; intro a H
  refine g_take 4 H rfl (wanted_none rfl) rfl (by decide) (by kernel_rfl) (by kernel_rfl) (by kernel_rfl) FSq (fun w' hSw => (x_move H rfl rfl)) ?_
  clear H a; intro a H
  refine g_take 6 H rfl (wanted_none rfl) rfl (by decide) (by kernel_rfl) (by kernel_rfl) (by kernel_rfl) FSq (fun w' hSw => (x_move H rfl rfl)) ?_
  clear H a; intro a H
  refine g_take 7 H rfl (wanted_none rfl) rfl (by decide) (by kernel_rfl) (by kernel_rfl) (by kernel_rfl) FSq (fun w' hSw => (x_nilCheck H rfl rfl)) ?_
  clear H a; intro a H
  refine g_take 8 H rfl (wanted_none rfl) rfl (by decide) (by kernel_rfl) (by kernel_rfl) (by kernel_rfl) FSq (fun w' hSw => (x_fieldAddr H rfl rfl (fa158_0 _ _))) ?_
  clear H a; intro a H
  refine g_take 9 H rfl (wanted_none rfl) rfl (by decide) (by kernel_rfl) (by kernel_rfl) (by kernel_rfl) FSq (fun w' hSw => (x_load H rfl rfl (l_cell Try.isAgg64 ((D1.ext hSw).blk.at_ (i := 0) rfl)))) ?_
  clear H a; intro a H
  refine g_take 10 H rfl (wanted_none rfl) rfl (by decide) (by kernel_rfl) (by kernel_rfl) (by kernel_rfl) FSq (fun w' hSw => (x_move H rfl rfl)) ?_
  clear H a; intro a H
  refine g_take 11 H rfl (wanted_none rfl) rfl (by decide) (by kernel_rfl) (by kernel_rfl) (by kernel_rfl) FSq (fun w' hSw => (x_indexAddr H rfl rfl rfl (i_sl (m := 0) Try.underlying37 Try.sizeOf22 rfl (by omega)))) ?_
  clear H a; intro a H
  refine g_take 12 H rfl (wanted_none rfl) rfl (by decide) (by kernel_rfl) (by kernel_rfl) (by kernel_rfl) FSq (fun w' hSw => (x_load H rfl rfl (l_cell Try.isAgg22 ((OO.ext hSw).row.cells 0 _ e0)))) ?_
  clear H a; intro a H
  refine g_call 5 H rfl (by kernel_rfl) (wanted_none rfl) rfl (by decide) rfl rfl (Try.call56 _) (in_any w1.heap.size gr v1 r1 ka _ kc (ackP r1.id r1.has) wf D1.rv OK.bs (ow_cap OK) (ow_le OK) (by omega)) ?_
  clear H a
  rintro e wg ⟨rfl, _, _, _, _, hbad⟩
  rw [hka] at hbad ⊢
  have Eg := hbad (by omega)
  refine ⟨_, rfl, Eg, fun a H => ?_⟩
  refine g_call 13 H rfl (by kernel_rfl) (wanted_none rfl) rfl (by decide) rfl rfl (Try.call53 _) (sack_any w1.heap.size gs V.vs ⟨5, fb, noMarks⟩ a0 _ c0 (pkt 5 fb 0) wg (D1.ext Eg).sn (hO0 (OO.ext Eg)).bs (ow_cap (hO0 OO)) (ow_le (hO0 OO)) (by omega)) ?_
  clear H a
  rintro e wh ⟨rfl, _, _, hbad2⟩
  rw [hkb] at hbad2 ⊢
  have Eh := hbad2 (by simp)
  refine ⟨_, rfl, Eg.tr Eh, fun a H => ?_⟩
  refine g_take 14 H rfl (wanted_none rfl) rfl (by decide) (by kernel_rfl) (by kernel_rfl) (by kernel_rfl) (Eg.tr Eh) (fun w' hSw => (x_assign H rfl rfl)) ?_
  clear H a; intro a H
  refine g_take 15 H rfl (wanted_none rfl) rfl (by decide) (by kernel_rfl) (by kernel_rfl) (by kernel_rfl) (Eg.tr Eh) (fun w' hSw => (x_assign H rfl rfl)) ?_
  clear H a; intro a H
  refine g_done (by kernel_rfl) (hR.out _ _ ?_)
  clear hR R
  replace D1 := D1.ext (Eg.tr Eh)
  replace OO := OO.ext (Eg.tr Eh)
  replace E := E.tr (Eg.tr Eh)
  refine hK11 _ _ ?_
  clear hK11 K11
  refine wp_seq_k (fun K12 hK12 => ?_)
  refine wp_seq_k (fun K13 hK13 => ?_)
  refine e_region (fun R hR => ?_)
  refine e_op H rfl rfl (by decide) (x_move H rfl rfl) ?_
  clear H a; intro a H
  refine e_op H rfl rfl (by decide) (x_binI H rfl rfl rfl (b_neq (b := false) (rfl))) ?_
  clear H a; intro a H
  refine e_op H rfl rfl (by decide) (x_move H rfl rfl) ?_
  clear H a; intro a H
  refine e_skip H (wanted_false H rfl rfl rfl rfl) rfl (by decide) ?_
  clear H a; intro a H
  refine e_skip H (wanted_false H rfl rfl rfl rfl) rfl (by decide) ?_
  clear H a; intro a H
  refine e_op H rfl rfl (by decide) (x_pickF H rfl rfl rfl) ?_
  clear H a; intro a H
  refine e_op H rfl rfl (by decide) (x_move H rfl rfl) ?_
  clear H a; intro a H
  refine e_opg H (wanted_true H rfl rfl rfl rfl) rfl (by decide) (x_move H rfl rfl) ?_
  clear H a; intro a H
  refine e_opg H (wanted_true H rfl rfl rfl rfl) rfl (by decide) (x_binI H rfl rfl rfl (b_neq (b := false) (rfl))) ?_
  clear H a; intro a H
  refine e_opg H (wanted_true H rfl rfl rfl rfl) rfl (by decide) (x_move H rfl rfl) ?_
  clear H a; intro a H
  refine e_skip H (wanted_false H rfl rfl rfl rfl) rfl (by decide) ?_
  clear H a; intro a H
  refine e_skip H (wanted_false H rfl rfl rfl rfl) rfl (by decide) ?_
  clear H a; intro a H
  refine e_opg H (wanted_true H rfl rfl rfl rfl) rfl (by decide) (x_pickF H rfl rfl rfl) ?_
  clear H a; intro a H
  refine e_op H rfl rfl (by decide) (x_pickF H rfl rfl rfl) ?_
  clear H a; intro a H
  refine e_nil (hR.out _ _ ?_)
  clear hR R
  refine hK13 _ _ ?_
  clear hK13 K13
  refine c_false H rfl ?_
  refine wp_skip ?_
  refine hK12 _ _ ?_
  clear hK12 K12
  refine wp_seq_k (fun K14 hK14 => ?_)
  obtain ⟨wi, hwi⟩ : ∃ x_, x_ = wh.drew := ⟨_, rfl⟩
  have Ewi : Ext wh wi := by rw [hwi]; exact (Ext.refl _).dr
  replace D1 := D1.ext Ewi
  replace OO := OO.ext Ewi
  replace E := E.tr Ewi
  clear HS
  have HS : Blk wi gw 158 (wCells gs gr V) := D1.blk
  refine g_start (fun w' => Blk w' gw 158 (wCells gs gr V)) (by kernel_rfl) (fun R hR => ?_)
  rw [← hwi]
  refine g_take 0 H rfl (wanted_none rfl) rfl (by decide) (by kernel_rfl) (by kernel_rfl) (by kernel_rfl) HS (fun w' hSw => (x_move H rfl rfl)) ?_
  clear H a; intro a H
  refine g_take 1 H rfl (wanted_none rfl) rfl (by decide) (by kernel_rfl) (by kernel_rfl) (by kernel_rfl) HS (fun w' hSw => (x_nilCheck H rfl rfl)) ?_
  clear H a; intro a H
  refine g_take 2 H rfl (wanted_none rfl) rfl (by decide) (by kernel_rfl) (by kernel_rfl) (by kernel_rfl) HS (fun w' hSw => (x_fieldAddr H rfl rfl (fa158_1 _ _))) ?_
  clear H a; intro a H
  refine g_take 3 H rfl (wanted_none rfl) rfl (by decide) (by kernel_rfl) (by kernel_rfl) (by kernel_rfl) HS (fun w' hSw => (x_load H rfl rfl (l_cell Try.isAgg65 (hSw.at_ (i := 1) rfl)))) ?_
  clear H a; intro a H
  refine g_take 4 H rfl (wanted_none rfl) rfl (by decide) (by kernel_rfl) (by kernel_rfl) (by kernel_rfl) HS (fun w' hSw => (x_move H rfl rfl)) ?_
  clear H a; intro a H
  refine g_take 6 H rfl (wanted_none rfl) rfl (by decide) (by kernel_rfl) (by kernel_rfl) (by kernel_rfl) HS (fun w' hSw => (x_move H rfl rfl)) ?_
  clear H a; intro a H
  refine g_take 7 H rfl (wanted_none rfl) rfl (by decide) (by kernel_rfl) (by kernel_rfl) (by kernel_rfl) HS (fun w' hSw => (x_nilCheck H rfl rfl)) ?_
  clear H a; intro a H
  refine g_take 8 H rfl (wanted_none rfl) rfl (by decide) (by kernel_rfl) (by kernel_rfl) (by kernel_rfl) HS (fun w' hSw => (x_fieldAddr H rfl rfl (fa158_0 _ _))) ?_
  clear H a; intro a H
  refine g_take 9 H rfl (wanted_none rfl) rfl (by decide) (by kernel_rfl) (by kernel_rfl) (by kernel_rfl) HS (fun w' hSw => (x_load H rfl rfl (l_cell Try.isAgg64 (hSw.at_ (i := 0) rfl)))) ?_
  clear H a; intro a H
  refine g_take 10 H rfl (wanted_none rfl) rfl (by decide) (by kernel_rfl) (by kernel_rfl) (by kernel_rfl) HS (fun w' hSw => (x_move H rfl rfl)) ?_
  clear H a; intro a H
  refine g_call 5 H rfl (by kernel_rfl) (wanted_none rfl) rfl (by decide) rfl rfl (Try.call56 _) (in_any w1.heap.size gr v1 r1 pa pn pc pl wi D1.rv (E.bs (E01.bs hp)) hpz hpc hpn) ?_
  clear H a
  rintro e wj ⟨rfl, v2, R2, F2, hw2, hb2⟩
  have D2 := D1.rcv F2 R2 hw2
  have OO2 := OO.rcv D1.rv F2 hw2
  have E2 := F2.ext E (own_ge D1)
  have HSn : Blk wj gw 158 (wCells gs gr V) := D2.blk
  refine ⟨_, rfl, HSn, fun a H => ?_⟩
  replace HS := HSn
  clear HSn
  refine g_call 11 H rfl (by kernel_rfl) (wanted_none rfl) rfl (by decide) rfl rfl (Try.call53 _) (sack_any w1.heap.size gs V.vs ⟨5, fb, noMarks⟩ pa pn pc pl wj D2.sn (E2.bs (E01.bs hp)) hpz hpc hpn) ?_
  clear H a
  rintro e wk ⟨rfl, S3, F3, hb3⟩
  have D3 := D2.snd F3 S3 (Snd.ack_same _ _).1 (Snd.ack_same _ _).2
  have OO3 := OO2.snd D2.sn F3
  have E3 := F3.ext E2 (by intro x hx; simp only [List.mem_singleton] at hx; rw [hx]; exact D2.sn.low)
  have HSn : Blk wk gw 158 (wCells gs gr V) := D3.blk
  refine ⟨_, rfl, HSn, fun a H => ?_⟩
  replace HS := HSn
  clear HSn
  refine g_take 12 H rfl (wanted_none rfl) rfl (by decide) (by kernel_rfl) (by kernel_rfl) (by kernel_rfl) HS (fun w' hSw => (x_assign H rfl rfl)) ?_
  clear H a; intro a H
  refine g_take 13 H rfl (wanted_none rfl) rfl (by decide) (by kernel_rfl) (by kernel_rfl) (by kernel_rfl) HS (fun w' hSw => (x_assign H rfl rfl)) ?_
  clear H a; intro a H
  refine g_done (by kernel_rfl) (hR.out _ _ ?_)
  clear hR R
  refine hK14 _ _ ?_
  clear hK14 K14
  refine wp_seq_k (fun K15 hK15 => ?_)
  refine wp_seq_k (fun K16 hK16 => ?_)
  refine Code.wp_mono (Q := fun e a w => e = Exit.normal ∧ Has a 212 [(2, .int .u32 (o : Int)), (3, .pointer (some ⟨g3, 0, none⟩)), (7, .pointer (some ⟨gw, 0, none⟩)), (10, .int .i64 (((unm (gb noMarks) (chunksT fb.length)).length : Nat) : Int)), (13, .int .i64 ((r1.in_ pl).1 : Int)), (14, .int .i64 (((⟨5, fb, noMarks⟩ : Snd).ack pl).1 : Int)), (99, .bool (decide ((r1.in_ pl).1 = 0 ∨ ((⟨5, fb, noMarks⟩ : Snd).ack pl).1 = 0)))] ∧ w = wk) (fun e a w hM => ?_) ?_
  · skip
    clear H
    obtain ⟨rfl, H, hww⟩ := hM
    rw [hww]
    clear hww w
    refine hK16 _ _ ?_
    clear hK16 K16
    refine c_split H rfl (fun ht => ?_) (fun ht => ?_)
    · skip
      skip
      refine wp_seq_k (fun K17 hK17 => ?_)
      refine e_region (fun R hR => ?_)
      refine e_op H rfl rfl (by decide) (x_assign H rfl rfl) ?_
      clear H a; intro a H
      refine e_nil (hR.out _ _ ?_)
      clear hR R
      refine hK17 _ _ ?_
      clear hK17 K17
      refine wp_ret ?_
      refine t_ret ?_
      exact ret1 H rfl rfl ⟨rfl, E01.tr E3⟩
    · skip
      have hne := of_decide_eq_false ht
      have q1 : (r1.in_ pl).1 ≠ 0 := fun h => hne (.inl h)
      have q2 : ((⟨5, fb, noMarks⟩ : Snd).ack pl).1 ≠ 0 := fun h => hne (.inr h)
      have i1 := Rcv.in_errs r1 pl
      have i2 := Snd.ack_errs ⟨5, fb, noMarks⟩ pl
      have Ebd : Ext wi wk := (hb2 q1).tr (hb3 q2)
      clear D3 OO3 E3 S3 R2 HS D2 OO2 E2
      replace D1 := D1.ext Ebd
      replace E := E.tr Ebd
      refine wp_skip ?_
      refine hK15 _ _ ?_
      clear hK15 K15
      refine wp_seq_k (fun K18 hK18 => ?_)
      refine wp_seq_k (fun K19 hK19 => ?_)
      refine Code.wp_mono (Q := fun e a w => e = Exit.normal ∧ Has a 212 [(2, .int .u32 (o : Int)), (3, .pointer (some ⟨g3, 0, none⟩)), (7, .pointer (some ⟨gw, 0, none⟩)), (10, .int .i64 (((unm (gb noMarks) (chunksT fb.length)).length : Nat) : Int)), (129, .bool false)] ∧ w = wk) (fun e a w hM => ?_) ?_
      · skip
        clear H i1 i2 hne
        obtain ⟨rfl, H, hww⟩ := hM
        rw [hww]
        clear hww w
        refine hK19 _ _ ?_
        clear hK19 K19
        refine c_false H rfl ?_
        refine wp_skip ?_
        refine hK18 _ _ ?_
        clear hK18 K18
        refine wp_seq_k (fun K20 hK20 => ?_)
        refine e_region (fun R hR => ?_)
        obtain ⟨wx0, hwx0⟩ : ∃ x, x = wk := ⟨_, rfl⟩
        rw [← hwx0] at D1 E ⊢
        clear hwx0
        have X := Ext.refl wx0
        refine e_op H rfl rfl (by decide) (x_move H rfl rfl) ?_
        clear H a; intro a H
        refine e_op H rfl rfl (by decide) (x_load H rfl rfl (ld_file (T3.ext E))) ?_
        clear H a; intro a H
        refine e_callq H rfl rfl (by decide) rfl rfl (Try.call98 _) (bytesG_any ad n c f t fb hfb wx0 (E.bs (E01.bs hb)) hz hn htt) ?_
        clear H a
        rintro e x1 ⟨xa, xc, rfl, OX, EX⟩
        refine ⟨_, rfl, fun a H => ?_⟩
        replace X := X.tr EX
        clear EX
        refine e_op H rfl rfl (by decide) (x_buildSlice H rfl rfl (bs1 _ _)) ?_
        clear H a; intro a H
        obtain ⟨a5, c5, w5x, hr5, O5, G5⟩ := run_app (x1.alloc (.cells #[.int .u8 1] 5)) 22 wx0.heap.size xa fb.length xc fb (some ⟨x1.heap.size, 0, none⟩) 1 1 [1] (row_al OX _) (Bs.new x1 #[.int .u8 1] 1 [1] rfl rfl) (by omega) (by have := X.sz; rw [World.size_alloc]; omega) (fun h => by cases h)
        have X5 := (X.al (.cells #[.int .u8 1] 5)).app (row_al OX _) (Nat.le_refl _) G5
        obtain ⟨fx, hfx⟩ : ∃ fx, fx = fb ++ [1] := ⟨_, rfl⟩
        have hxl : fb.length + 1 = fx.length := by rw [hfx]; simp
        rw [hxl, ← hfx] at O5
        rw [hxl] at hr5
        clear hfx
        refine e_op H rfl rfl (by decide) (x_builtin H rfl rfl (fun cs => bi_app hr5)) ?_
        clear H a; intro a H
        refine e_callq H rfl rfl (by decide) rfl rfl (Try.call97 _) (begin_any wx0.heap.size o a5 fx.length c5 fx w5x O5 X5.sz (by omega) ho) ?_
        clear H a
        rintro e x6 ⟨yw, ys, yr, Y, rfl, DY, k1, k2, k3, hyl, EX6⟩
        refine ⟨_, rfl, fun a H => ?_⟩
        replace X := X5.tr EX6
        clear EX6 X5
        refine e_op H rfl rfl (by decide) (x_assign H rfl rfl) ?_
        clear H a; intro a H
        refine e_nil (hR.out _ _ ?_)
        clear hR R
        refine hK20 _ _ ?_
        clear hK20 K20
        refine wp_seq_k (fun K21 hK21 => ?_)
        refine wp_seq_k (fun K22 hK22 => ?_)
        refine e_region (fun R hR => ?_)
        refine e_op H rfl rfl (by decide) (x_move H rfl rfl) ?_
        clear H a; intro a H
        refine e_op H rfl rfl (by decide) (x_bin H rfl rfl rfl (by rw [eqGuard_at_pointer]; rfl) (b_pnil (c := false) Try.underlying149 rfl)) ?_
        clear H a; intro a H
        refine e_nil (hR.out _ _ ?_)
        clear hR R
        refine hK22 _ _ ?_
        clear hK22 K22
        refine c_false H rfl ?_
        refine wp_skip ?_
        refine hK21 _ _ ?_
        clear hK21 K21
        refine wp_seq_k (fun K23 hK23 => ?_)
        refine e_region (fun R hR => ?_)
        refine e_op H rfl rfl (by decide) (x_move H rfl rfl) ?_
        clear H a; intro a H
        refine e_op H rfl rfl (by decide) (x_nilCheck H rfl rfl) ?_
        clear H a; intro a H
        refine e_op H rfl rfl (by decide) (x_fieldAddr H rfl rfl (fa158_0 _ _)) ?_
        clear H a; intro a H
        refine e_op H rfl rfl (by decide) (x_load H rfl rfl (l_cell Try.isAgg64 (DY.blk.at_ (i := 0) rfl))) ?_
        clear H a; intro a H
        refine e_callq H rfl rfl (by decide) rfl rfl (Try.call52 _) (out_any wx0.heap.size ys Y.vs (p0 o fx).s x6 DY.sn) ?_
        clear H a
        rintro e x7 ⟨vz, zs, rfl, RZ, EZ, EX7⟩
        have OZ := Outs.of DY.rv RZ EZ X.sz
        replace DY := DY.ext EX7
        replace X := X.tr EX7
        obtain ⟨za, zc, rfl, _⟩ := RZ.shape
        clear RZ EZ EX7
        obtain ⟨rz, hrz⟩ := out_first o fx
        rw [hrz] at OZ
        obtain ⟨gz, oz, a9, c9, hza, hposz, _, _, e9⟩ := OZ.elem 0 _ rfl
        subst hza
        have hOz : ∀ {w : World} {vr : Value}, Outs w wx0.heap.size vr (.slice (some ⟨gz, oz, none⟩) zs.length zc) zs (pkt o fx 0 :: rz) → Ow w wx0.heap.size a9 (pkt o fx 0).length c9 (pkt o fx 0) := fun h => by
          obtain ⟨a, c, h1, h2⟩ := h.els.at_ 0 _ rfl
          rw [e9] at h1
          simp only [Option.some.injEq, Value.slice.injEq] at h1
          obtain ⟨rfl, _, rfl⟩ := h1
          exact h2
        refine ⟨_, rfl, fun a H => ?_⟩
        refine e_op H rfl rfl (by decide) (x_assign H rfl rfl) ?_
        clear H a; intro a H
        refine e_nil (hR.out _ _ ?_)
        clear hR R
        refine hK23 _ _ ?_
        clear hK23 K23
        refine wp_seq_k (fun K24 hK24 => ?_)
        refine wp_seq_k (fun K25 hK25 => ?_)
        obtain ⟨wq, hwq⟩ : ∃ x_, x_ = x7.drew := ⟨_, rfl⟩
        have Ewq : Ext x7 wq := by rw [hwq]; exact (Ext.refl _).dr
        replace DY := DY.ext Ewq
        replace OZ := OZ.ext Ewq
        replace X := X.tr Ewq
        have HS : Blk wq yw 158 (wCells ys yr Y) ∧ Rw wq wx0.heap.size 22 (.slice (some ⟨gz, oz, none⟩) zs.length zc) zs := ⟨DY.blk, OZ.row⟩
        refine g_start (fun w' => Blk w' yw 158 (wCells ys yr Y) ∧ Rw w' wx0.heap.size 22 (.slice (some ⟨gz, oz, none⟩) zs.length zc) zs) (by kernel_rfl) (fun R hR => ?_)
        rw [← hwq]
        refine g_take 0 H rfl (wanted_none rfl) rfl (by decide) (by kernel_rfl) (by kernel_rfl) (by kernel_rfl) HS (fun w' hSw => (x_move H rfl rfl)) ?_
        clear H a; intro a H
        refine g_take 1 H rfl (wanted_none rfl) rfl (by decide) (by kernel_rfl) (by kernel_rfl) (by kernel_rfl) HS (fun w' hSw => (x_builtin H rfl rfl (fun cs => len_sl Try.underlying37))) ?_
        clear H a; intro a H
        refine g_take 2 H rfl (wanted_none rfl) rfl (by decide) (by kernel_rfl) (by kernel_rfl) (by kernel_rfl) HS (fun w' hSw => (x_binI H rfl rfl rfl (b_eql (b := false) (beq_f (by omega))))) ?_
        clear H a; intro a H
        refine g_take 3 H rfl (wanted_none rfl) rfl (by decide) (by kernel_rfl) (by kernel_rfl) (by kernel_rfl) HS (fun w' hSw => (x_move H rfl rfl)) ?_
        clear H a; intro a H
        refine g_take 4 H rfl (wanted_true H rfl rfl rfl rfl) rfl (by decide) (by kernel_rfl) (by kernel_rfl) (by kernel_rfl) HS (fun w' hSw => (x_move H rfl rfl)) ?_
        clear H a; intro a H
        refine g_take 5 H rfl (wanted_true H rfl rfl rfl rfl) rfl (by decide) (by kernel_rfl) (by kernel_rfl) (by kernel_rfl) HS (fun w' hSw => (x_nilCheck H rfl rfl)) ?_
        clear H a; intro a H
        refine g_take 6 H rfl (wanted_true H rfl rfl rfl rfl) rfl (by decide) (by kernel_rfl) (by kernel_rfl) (by kernel_rfl) HS (fun w' hSw => (x_fieldAddr H rfl rfl (fa158_1 _ _))) ?_
        clear H a; intro a H
        refine g_take 7 H rfl (wanted_true H rfl rfl rfl rfl) rfl (by decide) (by kernel_rfl) (by kernel_rfl) (by kernel_rfl) HS (fun w' hSw => (x_load H rfl rfl (l_cell Try.isAgg65 (hSw.1.at_ (i := 1) rfl)))) ?_
        clear H a; intro a H
        refine g_take 8 H rfl (wanted_true H rfl rfl rfl rfl) rfl (by decide) (by kernel_rfl) (by kernel_rfl) (by kernel_rfl) HS (fun w' hSw => (x_move H rfl rfl)) ?_
        clear H a; intro a H
        refine g_take 9 H rfl (wanted_true H rfl rfl rfl rfl) rfl (by decide) (by kernel_rfl) (by kernel_rfl) (by kernel_rfl) HS (fun w' hSw => (x_indexAddr H rfl rfl rfl (i_sl (m := 0) Try.underlying37 Try.sizeOf22 rfl (by omega)))) ?_
        clear H a; intro a H
        refine g_take 10 H rfl (wanted_true H rfl rfl rfl rfl) rfl (by decide) (by kernel_rfl) (by kernel_rfl) (by kernel_rfl) HS (fun w' hSw => (x_load H rfl rfl (l_cell Try.isAgg22 (hSw.2.cells 0 _ e9)))) ?_
        clear H a; intro a H
        refine g_call 11 H rfl (by kernel_rfl) (wanted_true H rfl rfl rfl rfl) rfl (by decide) rfl rfl (Try.call56 _) (in_play DY (Rcv.of_new o fx) (by omega) (by omega) (i := 0) (chunksT_pos _) (hOz OZ).bs (ow_cap (hOz OZ)) (ow_le (hOz OZ))) ?_
        clear H a
        rintro e wn2 ⟨rfl, y1, ry, DY1, KY, GY, FY, hwy⟩
        replace OZ := OZ.rcv DY.rv FY hwy
        replace X := FY.ext X (own_ge DY)
        have HSn : Blk wn2 yw 158 (wCells ys yr Y) ∧ Rw wn2 wx0.heap.size 22 (.slice (some ⟨gz, oz, none⟩) zs.length zc) zs := ⟨DY1.blk, OZ.row⟩
        refine ⟨_, rfl, HSn, fun a H => ?_⟩
        replace HS := HSn
        clear HSn
        refine g_take 12 H rfl (wanted_true H rfl rfl rfl rfl) rfl (by decide) (by kernel_rfl) (by kernel_rfl) (by kernel_rfl) HS (fun w' hSw => (x_binI H rfl rfl rfl (b_neq (b := false) (rfl)))) ?_
        clear H a; intro a H
        refine g_take 13 H rfl (wanted_none rfl) rfl (by decide) (by kernel_rfl) (by kernel_rfl) (by kernel_rfl) HS (fun w' hSw => (x_pickF H rfl rfl rfl)) ?_
        clear H a; intro a H
        refine g_done (by kernel_rfl) (hR.out _ _ ?_)
        clear hR R
        refine hK25 _ _ ?_
        clear hK25 K25
        refine c_false H rfl ?_
        refine wp_skip ?_
        refine hK24 _ _ ?_
        clear hK24 K24
        refine wp_seq_k (fun K26 hK26 => ?_)
        refine e_region (fun R hR => ?_)
        refine e_op H rfl rfl (by decide) (x_assign H rfl rfl) ?_
        clear H a; intro a H
        refine e_nil (hR.out _ _ ?_)
        clear hR R
        refine hK26 _ _ ?_
        clear hK26 K26
        refine wp_seq_k (fun K27 hK27 => ?_)
        refine wp_seq_k (fun K28 hK28 => ?_)
        refine e_region (fun R hR => ?_)
        refine e_op H rfl rfl (by decide) (x_move H rfl rfl) ?_
        clear H a; intro a H
        refine e_op H rfl rfl (by decide) (x_binI H rfl rfl rfl (b_eql (b := decide (o = 5)) (by rw [Bool.eq_iff_iff, beq_iff_eq, decide_eq_true_eq]; omega))) ?_
        clear H a; intro a H
        refine e_nil (hR.out _ _ ?_)
        clear hR R
        refine hK28 _ _ ?_
        clear hK28 K28
        refine Code.wp_mono (Q := fun e a w => e = Exit.normal ∧ Has a 212 [(2, .int .u32 (o : Int)), (7, .pointer (some ⟨gw, 0, none⟩)), (10, .int .i64 (((unm (gb noMarks) (chunksT fb.length)).length : Nat) : Int)), (15, .pointer (some ⟨yw, 0, none⟩)), (16, .slice (some ⟨gz, oz, none⟩) zs.length zc), (17, .int .i64 ((if o = 5 then 14 else 13 : Nat) : Int))] ∧ w = wn2) (fun e a w hM => ?_) ?_
        · skip
          clear H
          obtain ⟨rfl, H, hww⟩ := hM
          rw [hww]
          clear hww w
          refine hK27 _ _ ?_
          clear hK27 K27
          refine wp_seq_k (fun K29 hK29 => ?_)
          refine wp_seq_k (fun K30 hK30 => ?_)
          refine Code.wp_mono (Q := fun e a w => e = Exit.normal ∧ Has a 212 [(7, .pointer (some ⟨gw, 0, none⟩)), (10, .int .i64 (((unm (gb noMarks) (chunksT fb.length)).length : Nat) : Int)), (185, .bool false)] ∧ Wd w w1.heap.size gw gs gr { V with vr := v1 } { (p0 5 fb) with r := r1 } ∧ Ext wx0 w) (fun e a w hM => ?_) ?_
          · skip
            clear H DY1 OZ X HS
            obtain ⟨rfl, H, DX, X⟩ := hM
            generalize w = wv at *
            refine hK30 _ _ ?_
            clear hK30 K30
            refine c_false H rfl ?_
            refine wp_skip ?_
            refine hK29 _ _ ?_
            clear hK29 K29
            refine wp_seq_k (fun K31 hK31 => ?_)
            obtain ⟨wz, hwz⟩ : ∃ x_, x_ = wv.drew := ⟨_, rfl⟩
            have Ewz : Ext wv wz := by rw [hwz]; exact (Ext.refl _).dr
            replace DX := DX.ext Ewz
            replace X := X.tr Ewz
            have FSq := Ext.refl wz
            have hpx : r1.prefix_ = fb.take (min fb.length 64) := by
              rw [K1.prefix_]
              have hf : front (gb r1.has) (chunksT fb.length) = 1 := by
                have hc := chunksT_pos fb.length
                refine front_eq hc (fun k hk => ?_) ?_
                · obtain rfl : k = 0 := by omega
                  rw [G1]; simp
                · by_cases h1 : 1 = chunksT fb.length
                  · exact .inl h1
                  · refine .inr ?_
                    rw [G1]
                    show (gb noMarks 1 || _) = false
                    rw [gb_no]; rfl
              rw [hf, show min (1 * 64) fb.length = (min fb.length 64) by omega]
            have hpl : r1.prefix_.length ≤ 64 := by rw [hpx, List.length_take]; omega
            have hfcl := ow_le (DX.fl2 hvl)
            replace hfcl : fb.length ≤ fc := hfcl
            refine g_start (fun w' => Ext wz w') (by kernel_rfl) (fun R hR => ?_)
            rw [← hwz]
            refine g_take 0 H rfl (wanted_none rfl) rfl (by decide) (by kernel_rfl) (by kernel_rfl) (by kernel_rfl) FSq (fun w' hSw => (x_move H rfl rfl)) ?_
            clear H a; intro a H
            refine g_take 1 H rfl (wanted_none rfl) rfl (by decide) (by kernel_rfl) (by kernel_rfl) (by kernel_rfl) FSq (fun w' hSw => (x_nilCheck H rfl rfl)) ?_
            clear H a; intro a H
            refine g_take 2 H rfl (wanted_none rfl) rfl (by decide) (by kernel_rfl) (by kernel_rfl) (by kernel_rfl) FSq (fun w' hSw => (x_fieldAddr H rfl rfl (fa158_1 _ _))) ?_
            clear H a; intro a H
            refine g_take 3 H rfl (wanted_none rfl) rfl (by decide) (by kernel_rfl) (by kernel_rfl) (by kernel_rfl) FSq (fun w' hSw => (x_load H rfl rfl (l_cell Try.isAgg65 ((DX.ext hSw).blk.at_ (i := 1) rfl)))) ?_
            clear H a; intro a H
            refine g_take 5 H rfl (wanted_none rfl) rfl (by decide) (by kernel_rfl) (by kernel_rfl) (by kernel_rfl) FSq (fun w' hSw => (x_move H rfl rfl)) ?_
            clear H a; intro a H
            refine g_take 6 H rfl (wanted_none rfl) rfl (by decide) (by kernel_rfl) (by kernel_rfl) (by kernel_rfl) FSq (fun w' hSw => (x_nilCheck H rfl rfl)) ?_
            clear H a; intro a H
            refine g_take 7 H rfl (wanted_none rfl) rfl (by decide) (by kernel_rfl) (by kernel_rfl) (by kernel_rfl) FSq (fun w' hSw => (x_fieldAddr H rfl rfl (fa158_3 _ _))) ?_
            clear H a; intro a H
            refine g_take 8 H rfl (wanted_none rfl) rfl (by decide) (by kernel_rfl) (by kernel_rfl) (by kernel_rfl) FSq (fun w' hSw => (x_load H rfl rfl (l_cell (v := .slice fa fb.length fc) Try.isAgg22 ((DX.ext hSw).blk.at_ (i := 4) (by rw [← hvl]; rfl))))) ?_
            clear H a; intro a H
            refine g_take 9 H rfl (wanted_none rfl) rfl (by decide) (by kernel_rfl) (by kernel_rfl) (by kernel_rfl) FSq (fun w' hSw => (x_move H rfl rfl)) ?_
            clear H a; intro a H
            refine g_take 10 H rfl (wanted_none rfl) rfl (by decide) (by kernel_rfl) (by kernel_rfl) (by kernel_rfl) FSq (fun w' hSw => (x_nilCheck H rfl rfl)) ?_
            clear H a; intro a H
            refine g_take 11 H rfl (wanted_none rfl) rfl (by decide) (by kernel_rfl) (by kernel_rfl) (by kernel_rfl) FSq (fun w' hSw => (x_fieldAddr H rfl rfl (fa158_3 _ _))) ?_
            clear H a; intro a H
            refine g_take 12 H rfl (wanted_none rfl) rfl (by decide) (by kernel_rfl) (by kernel_rfl) (by kernel_rfl) FSq (fun w' hSw => (x_load H rfl rfl (l_cell (v := .slice fa fb.length fc) Try.isAgg22 ((DX.ext hSw).blk.at_ (i := 4) (by rw [← hvl]; rfl))))) ?_
            clear H a; intro a H
            refine g_take 13 H rfl (wanted_none rfl) rfl (by decide) (by kernel_rfl) (by kernel_rfl) (by kernel_rfl) FSq (fun w' hSw => (x_builtin H rfl rfl (fun cs => len_sl Try.underlying22))) ?_
            clear H a; intro a H
            refine g_take 14 H rfl (wanted_none rfl) rfl (by decide) (by kernel_rfl) (by kernel_rfl) (by kernel_rfl) FSq (fun w' hSw => (x_builtin H rfl rfl (fun cs => bi_min (z := (((min fb.length 64) : Nat) : Int)) (by split <;> omega)))) ?_
            clear H a; intro a H
            refine g_take 15 H rfl (wanted_none rfl) rfl (by decide) (by kernel_rfl) (by kernel_rfl) (by kernel_rfl) FSq (fun w' hSw => (x_slice H rfl rfl rfl rfl (sl_hi (hi := (min fb.length 64)) Try.underlying22 Try.sizeOf5 rfl (by omega)))) ?_
            clear H a; intro a H
            refine g_call 4 H rfl (by kernel_rfl) (wanted_none rfl) rfl (by decide) rfl rfl (Try.call58 _) (prefix_any w1.heap.size gr v1 r1 wz DX.rv) ?_
            clear H a
            rintro e z1 ⟨qa, qc, rfl, OQ, Z1⟩
            refine ⟨_, rfl, Z1, fun a H => ?_⟩
            refine g_call 16 H rfl (by kernel_rfl) (wanted_none rfl) rfl (by decide) rfl rfl (Try.call45 _) (same1_any qa r1.prefix_.length qc fa (min fb.length 64) fc r1.prefix_ (fb.take (min fb.length 64)) z1 OQ.bs (bs_hi ((DX.ext Z1).fl2 hvl).bs (min fb.length 64) (by show (min fb.length 64) ≤ fb.length; omega)) (by omega)) ?_
            clear H a
            rintro e z2 ⟨rfl, Z2⟩
            refine ⟨_, rfl, Z1.tr Z2, fun a H => ?_⟩
            rw [hpx, decide_eq_true rfl] at H
            refine g_take 17 H rfl (wanted_none rfl) rfl (by decide) (by kernel_rfl) (by kernel_rfl) (by kernel_rfl) (Z1.tr Z2) (fun w' hSw => (x_move H rfl rfl)) ?_
            clear H a; intro a H
            refine g_take 18 H rfl (wanted_true H rfl rfl rfl rfl) rfl (by decide) (by kernel_rfl) (by kernel_rfl) (by kernel_rfl) (Z1.tr Z2) (fun w' hSw => (x_move H rfl rfl)) ?_
            clear H a; intro a H
            refine g_take 19 H rfl (wanted_true H rfl rfl rfl rfl) rfl (by decide) (by kernel_rfl) (by kernel_rfl) (by kernel_rfl) (Z1.tr Z2) (fun w' hSw => (x_nilCheck H rfl rfl)) ?_
            clear H a; intro a H
            refine g_take 20 H rfl (wanted_true H rfl rfl rfl rfl) rfl (by decide) (by kernel_rfl) (by kernel_rfl) (by kernel_rfl) (Z1.tr Z2) (fun w' hSw => (x_fieldAddr H rfl rfl (fa158_0 _ _))) ?_
            clear H a; intro a H
            refine g_take 21 H rfl (wanted_true H rfl rfl rfl rfl) rfl (by decide) (by kernel_rfl) (by kernel_rfl) (by kernel_rfl) (Z1.tr Z2) (fun w' hSw => (x_load H rfl rfl (l_cell Try.isAgg64 ((DX.ext hSw).blk.at_ (i := 0) rfl)))) ?_
            clear H a; intro a H
            refine g_take 23 H rfl (wanted_true H rfl rfl rfl rfl) rfl (by decide) (by kernel_rfl) (by kernel_rfl) (by kernel_rfl) (Z1.tr Z2) (fun w' hSw => (x_move H rfl rfl)) ?_
            clear H a; intro a H
            refine g_call 22 H rfl (by kernel_rfl) (wanted_true H rfl rfl rfl rfl) rfl (by decide) rfl rfl (Try.call55 _) (left_any w1.heap.size gs V.vs ⟨5, fb, noMarks⟩ z2 (DX.ext (Z1.tr Z2)).sn) ?_
            clear H a
            rintro e z3 ⟨rfl, hz3⟩
            rw [hz3]
            refine ⟨_, rfl, Z1.tr Z2, fun a H => ?_⟩
            refine g_take 24 H rfl (wanted_true H rfl rfl rfl rfl) rfl (by decide) (by kernel_rfl) (by kernel_rfl) (by kernel_rfl) (Z1.tr Z2) (fun w' hSw => (x_binI H rfl rfl rfl (b_eql (b := true) (beq_t rfl)))) ?_
            clear H a; intro a H
            refine g_take 25 H rfl (wanted_none rfl) rfl (by decide) (by kernel_rfl) (by kernel_rfl) (by kernel_rfl) (Z1.tr Z2) (fun w' hSw => (x_pickT H rfl rfl rfl)) ?_
            clear H a; intro a H
            refine g_take 26 H rfl (wanted_none rfl) rfl (by decide) (by kernel_rfl) (by kernel_rfl) (by kernel_rfl) (Z1.tr Z2) (fun w' hSw => (x_assign H rfl rfl)) ?_
            clear H a; intro a H
            refine g_done (by kernel_rfl) (hR.out _ _ ?_)
            clear hR R
            refine hK31 _ _ ?_
            clear hK31 K31
            refine wp_ret ?_
            exact ret1 H rfl rfl ⟨rfl, E01.tr (E.tr (X.tr (Z1.tr Z2)))⟩
          · skip
            by_cases ho5 : o = 5
            · skip
              skip
              obtain ⟨wr, hwr⟩ : ∃ x_, x_ = wn2.drew := ⟨_, rfl⟩
              have Ewr : Ext wn2 wr := by rw [hwr]; exact (Ext.refl _).dr
              replace DY1 := DY1.ext Ewr
              replace OZ := OZ.ext Ewr
              replace X := X.tr Ewr
              have DX := D1.ext X
              have FSq := Ext.refl wr
              have hpy := pkt_len o fx 0 (by omega) (by omega) (by omega)
              have hin : r1.in_ (pkt o fx 0) = (14, r1) := by
                have hk := rdPk_pkt o fx 0 (by omega) (by omega) (chunksT_pos _)
                unfold Rcv.in_
                rw [hk, if_neg (by simp)]
                rw [if_neg (by simp [K1.id_, ho5]), if_pos]
                refine ⟨hkn, .inl ?_⟩
                show fx.length ≠ r1.data.length
                rw [K1.len hkn]; omega
              refine g_start (fun w' => Ext wr w') (by kernel_rfl) (fun R hR => ?_)
              rw [← hwr]
              refine g_take 0 H rfl (wanted_none rfl) rfl (by decide) (by kernel_rfl) (by kernel_rfl) (by kernel_rfl) FSq (fun w' hSw => (x_move H rfl rfl)) ?_
              clear H a; intro a H
              refine g_take 1 H rfl (wanted_none rfl) rfl (by decide) (by kernel_rfl) (by kernel_rfl) (by kernel_rfl) FSq (fun w' hSw => (x_nilCheck H rfl rfl)) ?_
              clear H a; intro a H
              refine g_take 2 H rfl (wanted_none rfl) rfl (by decide) (by kernel_rfl) (by kernel_rfl) (by kernel_rfl) FSq (fun w' hSw => (x_fieldAddr H rfl rfl (fa158_1 _ _))) ?_
              clear H a; intro a H
              refine g_take 3 H rfl (wanted_none rfl) rfl (by decide) (by kernel_rfl) (by kernel_rfl) (by kernel_rfl) FSq (fun w' hSw => (x_load H rfl rfl (l_cell Try.isAgg65 ((DX.ext hSw).blk.at_ (i := 1) rfl)))) ?_
              clear H a; intro a H
              refine g_take 4 H rfl (wanted_none rfl) rfl (by decide) (by kernel_rfl) (by kernel_rfl) (by kernel_rfl) FSq (fun w' hSw => (x_move H rfl rfl)) ?_
              clear H a; intro a H
              refine g_take 5 H rfl (wanted_none rfl) rfl (by decide) (by kernel_rfl) (by kernel_rfl) (by kernel_rfl) FSq (fun w' hSw => (x_indexAddr H rfl rfl rfl (i_sl (m := 0) Try.underlying37 Try.sizeOf22 rfl (by omega)))) ?_
              clear H a; intro a H
              refine g_take 6 H rfl (wanted_none rfl) rfl (by decide) (by kernel_rfl) (by kernel_rfl) (by kernel_rfl) FSq (fun w' hSw => (x_load H rfl rfl (l_cell Try.isAgg22 ((OZ.ext hSw).row.cells 0 _ e9)))) ?_
              clear H a; intro a H
              refine g_take 8 H rfl (wanted_none rfl) rfl (by decide) (by kernel_rfl) (by kernel_rfl) (by kernel_rfl) FSq (fun w' hSw => (x_move H rfl rfl)) ?_
              clear H a; intro a H
              refine g_call 7 H rfl (by kernel_rfl) (wanted_none rfl) rfl (by decide) rfl rfl (Try.call56 _) (in_any w1.heap.size gr v1 r1 a9 _ c9 (pkt o fx 0) wr DX.rv (hOz OZ).bs (ow_cap (hOz OZ)) (ow_le (hOz OZ)) (by omega)) ?_
              clear H a
              rintro e ws ⟨rfl, _, _, _, _, hbad⟩
              rw [hin] at hbad ⊢
              have Es := hbad (by simp)
              refine ⟨_, rfl, Es, fun a H => ?_⟩
              refine g_take 9 H rfl (wanted_none rfl) rfl (by decide) (by kernel_rfl) (by kernel_rfl) (by kernel_rfl) Es (fun w' hSw => (x_binI H rfl rfl rfl (b_neq (b := false) (bne_f (by rw [if_pos ho5]))))) ?_
              clear H a; intro a H
              refine g_take 10 H rfl (wanted_none rfl) rfl (by decide) (by kernel_rfl) (by kernel_rfl) (by kernel_rfl) Es (fun w' hSw => (x_move H rfl rfl)) ?_
              clear H a; intro a H
              refine g_take 11 H rfl (wanted_true H rfl rfl rfl rfl) rfl (by decide) (by kernel_rfl) (by kernel_rfl) (by kernel_rfl) Es (fun w' hSw => (x_move H rfl rfl)) ?_
              clear H a; intro a H
              refine g_take 12 H rfl (wanted_true H rfl rfl rfl rfl) rfl (by decide) (by kernel_rfl) (by kernel_rfl) (by kernel_rfl) Es (fun w' hSw => (x_binI H rfl rfl rfl (b_neq (b := false) (bne_f (by omega))))) ?_
              clear H a; intro a H
              refine g_take 13 H rfl (wanted_true H rfl rfl rfl rfl) rfl (by decide) (by kernel_rfl) (by kernel_rfl) (by kernel_rfl) Es (fun w' hSw => (x_move H rfl rfl)) ?_
              clear H a; intro a H
              refine g_skip 14 H rfl (wanted_false H rfl rfl rfl rfl) rfl (by decide) (by kernel_rfl) (by kernel_rfl) (by kernel_rfl) Es ?_
              clear H a; intro a H
              refine g_skip 15 H rfl (wanted_false H rfl rfl rfl rfl) rfl (by decide) (by kernel_rfl) (by kernel_rfl) (by kernel_rfl) Es ?_
              clear H a; intro a H
              refine g_skip 16 H rfl (wanted_false H rfl rfl rfl rfl) rfl (by decide) (by kernel_rfl) (by kernel_rfl) (by kernel_rfl) Es ?_
              clear H a; intro a H
              refine g_skip 17 H rfl (wanted_false H rfl rfl rfl rfl) rfl (by decide) (by kernel_rfl) (by kernel_rfl) (by kernel_rfl) Es ?_
              clear H a; intro a H
              refine g_skip 18 H rfl (wanted_false H rfl rfl rfl rfl) rfl (by decide) (by kernel_rfl) (by kernel_rfl) (by kernel_rfl) Es ?_
              clear H a; intro a H
              refine g_skip 19 H rfl (wanted_false H rfl rfl rfl rfl) rfl (by decide) (by kernel_rfl) (by kernel_rfl) (by kernel_rfl) Es ?_
              clear H a; intro a H
              refine g_skip 20 H rfl (wanted_false H rfl rfl rfl rfl) rfl (by decide) (by kernel_rfl) (by kernel_rfl) (by kernel_rfl) Es ?_
              clear H a; intro a H
              refine g_skip 21 H rfl (wanted_false H rfl rfl rfl rfl) rfl (by decide) (by kernel_rfl) (by kernel_rfl) (by kernel_rfl) Es ?_
              clear H a; intro a H
              refine g_skip 22 H rfl (wanted_false H rfl rfl rfl rfl) rfl (by decide) (by kernel_rfl) (by kernel_rfl) (by kernel_rfl) Es ?_
              clear H a; intro a H
              refine g_skip 23 H rfl (wanted_false H rfl rfl rfl rfl) rfl (by decide) (by kernel_rfl) (by kernel_rfl) (by kernel_rfl) Es ?_
              clear H a; intro a H
              refine g_skip 24 H rfl (wanted_false H rfl rfl rfl rfl) rfl (by decide) (by kernel_rfl) (by kernel_rfl) (by kernel_rfl) Es ?_
              clear H a; intro a H
              refine g_take 25 H rfl (wanted_true H rfl rfl rfl rfl) rfl (by decide) (by kernel_rfl) (by kernel_rfl) (by kernel_rfl) Es (fun w' hSw => (x_pickF H rfl rfl rfl)) ?_
              clear H a; intro a H
              refine g_take 26 H rfl (wanted_none rfl) rfl (by decide) (by kernel_rfl) (by kernel_rfl) (by kernel_rfl) Es (fun w' hSw => (x_pickF H rfl rfl rfl)) ?_
              clear H a; intro a H
              refine g_done (by kernel_rfl) (hR.out _ _ ?_)
              clear hR R
              obtain ⟨wv, hwv⟩ : ∃ x, x = ws := ⟨_, rfl⟩
              have EV : Ext wr wv := by rw [hwv]; exact Es
              rw [← hwv]
              clear hwv
              have hend : Has a 212 [(7, .pointer (some ⟨gw, 0, none⟩)), (10, .int .i64 (((unm (gb noMarks) (chunksT fb.length)).length : Nat) : Int)), (185, .bool false)] := H.sub ⟨rfl, rfl, rfl, trivial⟩
              replace H := hend
              replace DX := DX.ext EV
              replace X := X.tr EV
              exact ⟨rfl, H, DX, X⟩
            · skip
              skip
              obtain ⟨wr, hwr⟩ : ∃ x_, x_ = wn2.drew := ⟨_, rfl⟩
              have Ewr : Ext wn2 wr := by rw [hwr]; exact (Ext.refl _).dr
              replace DY1 := DY1.ext Ewr
              replace OZ := OZ.ext Ewr
              replace X := X.tr Ewr
              have DX := D1.ext X
              have FSq := Ext.refl wr
              have hpy := pkt_len o fx 0 (by omega) (by omega) (by omega)
              have hacy := ackP_len ry.id ry.has (by rw [KY.id_]; omega)
              have hayl : (ackP ry.id ry.has).length ≤ 1000 := by unfold ackP; rw [tseal_len]; omega
              have hsk : (⟨5, fb, noMarks⟩ : Snd).ack (ackP ry.id ry.has) = (13, ⟨5, fb, noMarks⟩) := (Snd.ack_put ⟨5, fb, noMarks⟩ ry.id ry.has (by rw [KY.id_]; omega) KY.size (List.length_replicate ..)).1 (by rw [KY.id_]; exact ho5)
              have hin : r1.in_ (pkt o fx 0) = (13, r1) := by
                have hk := rdPk_pkt o fx 0 (by omega) (by omega) (chunksT_pos _)
                unfold Rcv.in_
                rw [hk, if_neg (by simp)]
                rw [if_pos (by simp only; rw [K1.id_]; exact ho5)]
              refine g_start (fun w' => Ext wr w') (by kernel_rfl) (fun R hR => ?_)
              rw [← hwr]
              refine g_take 0 H rfl (wanted_none rfl) rfl (by decide) (by kernel_rfl) (by kernel_rfl) (by kernel_rfl) FSq (fun w' hSw => (x_move H rfl rfl)) ?_
              clear H a; intro a H
              refine g_take 1 H rfl (wanted_none rfl) rfl (by decide) (by kernel_rfl) (by kernel_rfl) (by kernel_rfl) FSq (fun w' hSw => (x_nilCheck H rfl rfl)) ?_
              clear H a; intro a H
              refine g_take 2 H rfl (wanted_none rfl) rfl (by decide) (by kernel_rfl) (by kernel_rfl) (by kernel_rfl) FSq (fun w' hSw => (x_fieldAddr H rfl rfl (fa158_1 _ _))) ?_
              clear H a; intro a H
              refine g_take 3 H rfl (wanted_none rfl) rfl (by decide) (by kernel_rfl) (by kernel_rfl) (by kernel_rfl) FSq (fun w' hSw => (x_load H rfl rfl (l_cell Try.isAgg65 ((DX.ext hSw).blk.at_ (i := 1) rfl)))) ?_
              clear H a; intro a H
              refine g_take 4 H rfl (wanted_none rfl) rfl (by decide) (by kernel_rfl) (by kernel_rfl) (by kernel_rfl) FSq (fun w' hSw => (x_move H rfl rfl)) ?_
              clear H a; intro a H
              refine g_take 5 H rfl (wanted_none rfl) rfl (by decide) (by kernel_rfl) (by kernel_rfl) (by kernel_rfl) FSq (fun w' hSw => (x_indexAddr H rfl rfl rfl (i_sl (m := 0) Try.underlying37 Try.sizeOf22 rfl (by omega)))) ?_
              clear H a; intro a H
              refine g_take 6 H rfl (wanted_none rfl) rfl (by decide) (by kernel_rfl) (by kernel_rfl) (by kernel_rfl) FSq (fun w' hSw => (x_load H rfl rfl (l_cell Try.isAgg22 ((OZ.ext hSw).row.cells 0 _ e9)))) ?_
              clear H a; intro a H
              refine g_take 8 H rfl (wanted_none rfl) rfl (by decide) (by kernel_rfl) (by kernel_rfl) (by kernel_rfl) FSq (fun w' hSw => (x_move H rfl rfl)) ?_
              clear H a; intro a H
              refine g_call 7 H rfl (by kernel_rfl) (wanted_none rfl) rfl (by decide) rfl rfl (Try.call56 _) (in_any w1.heap.size gr v1 r1 a9 _ c9 (pkt o fx 0) wr DX.rv (hOz OZ).bs (ow_cap (hOz OZ)) (ow_le (hOz OZ)) (by omega)) ?_
              clear H a
              rintro e ws ⟨rfl, _, _, _, _, hbad⟩
              rw [hin] at hbad ⊢
              have Es := hbad (by simp)
              refine ⟨_, rfl, Es, fun a H => ?_⟩
              refine g_take 9 H rfl (wanted_none rfl) rfl (by decide) (by kernel_rfl) (by kernel_rfl) (by kernel_rfl) Es (fun w' hSw => (x_binI H rfl rfl rfl (b_neq (b := false) (bne_f (by rw [if_neg ho5]))))) ?_
              clear H a; intro a H
              refine g_take 10 H rfl (wanted_none rfl) rfl (by decide) (by kernel_rfl) (by kernel_rfl) (by kernel_rfl) Es (fun w' hSw => (x_move H rfl rfl)) ?_
              clear H a; intro a H
              refine g_take 11 H rfl (wanted_true H rfl rfl rfl rfl) rfl (by decide) (by kernel_rfl) (by kernel_rfl) (by kernel_rfl) Es (fun w' hSw => (x_move H rfl rfl)) ?_
              clear H a; intro a H
              refine g_take 12 H rfl (wanted_true H rfl rfl rfl rfl) rfl (by decide) (by kernel_rfl) (by kernel_rfl) (by kernel_rfl) Es (fun w' hSw => (x_binI H rfl rfl rfl (b_neq (b := true) (bne_t (by omega))))) ?_
              clear H a; intro a H
              refine g_take 13 H rfl (wanted_true H rfl rfl rfl rfl) rfl (by decide) (by kernel_rfl) (by kernel_rfl) (by kernel_rfl) Es (fun w' hSw => (x_move H rfl rfl)) ?_
              clear H a; intro a H
              refine g_take 14 H rfl (wanted_true H rfl rfl rfl rfl) rfl (by decide) (by kernel_rfl) (by kernel_rfl) (by kernel_rfl) Es (fun w' hSw => (x_move H rfl rfl)) ?_
              clear H a; intro a H
              refine g_take 15 H rfl (wanted_true H rfl rfl rfl rfl) rfl (by decide) (by kernel_rfl) (by kernel_rfl) (by kernel_rfl) Es (fun w' hSw => (x_nilCheck H rfl rfl)) ?_
              clear H a; intro a H
              refine g_take 16 H rfl (wanted_true H rfl rfl rfl rfl) rfl (by decide) (by kernel_rfl) (by kernel_rfl) (by kernel_rfl) Es (fun w' hSw => (x_fieldAddr H rfl rfl (fa158_0 _ _))) ?_
              clear H a; intro a H
              refine g_take 17 H rfl (wanted_true H rfl rfl rfl rfl) rfl (by decide) (by kernel_rfl) (by kernel_rfl) (by kernel_rfl) Es (fun w' hSw => (x_load H rfl rfl (l_cell Try.isAgg64 ((DX.ext hSw).blk.at_ (i := 0) rfl)))) ?_
              clear H a; intro a H
              refine g_take 18 H rfl (wanted_true H rfl rfl rfl rfl) rfl (by decide) (by kernel_rfl) (by kernel_rfl) (by kernel_rfl) Es (fun w' hSw => (x_move H rfl rfl)) ?_
              clear H a; intro a H
              refine g_take 19 H rfl (wanted_true H rfl rfl rfl rfl) rfl (by decide) (by kernel_rfl) (by kernel_rfl) (by kernel_rfl) Es (fun w' hSw => (x_nilCheck H rfl rfl)) ?_
              clear H a; intro a H
              refine g_take 20 H rfl (wanted_true H rfl rfl rfl rfl) rfl (by decide) (by kernel_rfl) (by kernel_rfl) (by kernel_rfl) Es (fun w' hSw => (x_fieldAddr H rfl rfl (fa158_1 _ _))) ?_
              clear H a; intro a H
              refine g_take 21 H rfl (wanted_true H rfl rfl rfl rfl) rfl (by decide) (by kernel_rfl) (by kernel_rfl) (by kernel_rfl) Es (fun w' hSw => (x_load H rfl rfl (l_cell Try.isAgg65 ((DY1.ext hSw).blk.at_ (i := 1) rfl)))) ?_
              clear H a; intro a H
              refine g_call 22 H rfl (by kernel_rfl) (wanted_true H rfl rfl rfl rfl) rfl (by decide) rfl rfl (Try.call57 _) (ack_any wx0.heap.size yr y1 ry ws (DY1.ext Es).rv) ?_
              clear H a
              rintro e wt ⟨ja, jc, rfl, OJ, Et⟩
              refine ⟨_, rfl, Es.tr Et, fun a H => ?_⟩
              refine g_call 23 H rfl (by kernel_rfl) (wanted_true H rfl rfl rfl rfl) rfl (by decide) rfl rfl (Try.call53 _) (sack_any w1.heap.size gs V.vs ⟨5, fb, noMarks⟩ ja _ jc (ackP ry.id ry.has) wt (DX.ext (Es.tr Et)).sn OJ.bs (ow_cap OJ) (ow_le OJ) (by omega)) ?_
              clear H a
              rintro e wu ⟨rfl, _, _, hbad2⟩
              rw [hsk] at hbad2 ⊢
              have Eu := hbad2 (by simp)
              refine ⟨_, rfl, Es.tr (Et.tr Eu), fun a H => ?_⟩
              refine g_take 24 H rfl (wanted_true H rfl rfl rfl rfl) rfl (by decide) (by kernel_rfl) (by kernel_rfl) (by kernel_rfl) (Es.tr (Et.tr Eu)) (fun w' hSw => (x_binI H rfl rfl rfl (b_neq (b := false) (rfl)))) ?_
              clear H a; intro a H
              refine g_take 25 H rfl (wanted_true H rfl rfl rfl rfl) rfl (by decide) (by kernel_rfl) (by kernel_rfl) (by kernel_rfl) (Es.tr (Et.tr Eu)) (fun w' hSw => (x_pickT H rfl rfl rfl)) ?_
              clear H a; intro a H
              refine g_take 26 H rfl (wanted_none rfl) rfl (by decide) (by kernel_rfl) (by kernel_rfl) (by kernel_rfl) (Es.tr (Et.tr Eu)) (fun w' hSw => (x_pickF H rfl rfl rfl)) ?_
              clear H a; intro a H
              refine g_done (by kernel_rfl) (hR.out _ _ ?_)
              clear hR R
              obtain ⟨wv, hwv⟩ : ∃ x, x = wu := ⟨_, rfl⟩
              have EV : Ext wr wv := by rw [hwv]; exact (Es.tr (Et.tr Eu))
              rw [← hwv]
              clear hwv
              have hend : Has a 212 [(7, .pointer (some ⟨gw, 0, none⟩)), (10, .int .i64 (((unm (gb noMarks) (chunksT fb.length)).length : Nat) : Int)), (185, .bool false)] := H.sub ⟨rfl, rfl, rfl, trivial⟩
              replace H := hend
              replace DX := DX.ext EV
              replace X := X.tr EV
              exact ⟨rfl, H, DX, X⟩
        · skip
          by_cases ho5 : o = 5
          · skip
            rw [decide_eq_true ho5] at H
            rw [if_pos ho5]
            refine c_true H rfl ?_
            refine e_region (fun R hR => ?_)
            refine e_op H rfl rfl (by decide) (x_assign H rfl rfl) ?_
            clear H a; intro a H
            refine e_nil (hR.out _ _ ?_)
            clear hR R
            exact ⟨rfl, H.sub ⟨rfl, rfl, rfl, rfl, rfl, rfl, trivial⟩, rfl⟩
          · skip
            rw [decide_eq_false ho5] at H
            rw [if_neg ho5]
            refine c_false H rfl ?_
            refine wp_skip ?_
            exact ⟨rfl, H.sub ⟨rfl, rfl, rfl, rfl, rfl, rfl, trivial⟩, rfl⟩
      · skip
        have hq1 := q1
        have hq2 := q2
        rcases i1.1 with hh | s1 | s1 | s1 | s1
        · exact absurd hh hq1
        all_goals (rcases i2.1 with hh | s2 | s2 | s2 | s2; exact absurd hh hq2)
        · skip
          clear i1 i2 hne
          refine e_region (fun R hR => ?_)
          refine e_op H rfl rfl (by decide) (x_move H rfl rfl) ?_
          clear H a; intro a H
          refine e_op H rfl rfl (by decide) (x_binI H rfl rfl rfl (b_neq (b := false) (bne_f (by omega)))) ?_
          clear H a; intro a H
          refine e_op H rfl rfl (by decide) (x_move H rfl rfl) ?_
          clear H a; intro a H
          refine e_skip H (wanted_false H rfl rfl rfl rfl) rfl (by decide) ?_
          clear H a; intro a H
          refine e_skip H (wanted_false H rfl rfl rfl rfl) rfl (by decide) ?_
          clear H a; intro a H
          refine e_op H rfl rfl (by decide) (x_pickF H rfl rfl rfl) ?_
          clear H a; intro a H
          refine e_op H rfl rfl (by decide) (x_move H rfl rfl) ?_
          clear H a; intro a H
          refine e_skip H (wanted_false H rfl rfl rfl rfl) rfl (by decide) ?_
          clear H a; intro a H
          refine e_skip H (wanted_false H rfl rfl rfl rfl) rfl (by decide) ?_
          clear H a; intro a H
          refine e_op H rfl rfl (by decide) (x_pickF H rfl rfl rfl) ?_
          clear H a; intro a H
          refine e_op H rfl rfl (by decide) (x_move H rfl rfl) ?_
          clear H a; intro a H
          refine e_skip H (wanted_false H rfl rfl rfl rfl) rfl (by decide) ?_
          clear H a; intro a H
          refine e_skip H (wanted_false H rfl rfl rfl rfl) rfl (by decide) ?_
          clear H a; intro a H
          refine e_op H rfl rfl (by decide) (x_pickF H rfl rfl rfl) ?_
          clear H a; intro a H
          refine e_op H rfl rfl (by decide) (x_move H rfl rfl) ?_
          clear H a; intro a H
          refine e_opg H (wanted_true H rfl rfl rfl rfl) rfl (by decide) (x_move H rfl rfl) ?_
          clear H a; intro a H
          refine e_opg H (wanted_true H rfl rfl rfl rfl) rfl (by decide) (x_binI H rfl rfl rfl (b_neq (b := false) (bne_f (by omega)))) ?_
          clear H a; intro a H
          refine e_opg H (wanted_true H rfl rfl rfl rfl) rfl (by decide) (x_move H rfl rfl) ?_
          clear H a; intro a H
          refine e_skip H (wanted_false H rfl rfl rfl rfl) rfl (by decide) ?_
          clear H a; intro a H
          refine e_skip H (wanted_false H rfl rfl rfl rfl) rfl (by decide) ?_
          clear H a; intro a H
          refine e_opg H (wanted_true H rfl rfl rfl rfl) rfl (by decide) (x_pickF H rfl rfl rfl) ?_
          clear H a; intro a H
          refine e_opg H (wanted_true H rfl rfl rfl rfl) rfl (by decide) (x_move H rfl rfl) ?_
          clear H a; intro a H
          refine e_skip H (wanted_false H rfl rfl rfl rfl) rfl (by decide) ?_
          clear H a; intro a H
          refine e_skip H (wanted_false H rfl rfl rfl rfl) rfl (by decide) ?_
          clear H a; intro a H
          refine e_opg H (wanted_true H rfl rfl rfl rfl) rfl (by decide) (x_pickF H rfl rfl rfl) ?_
          clear H a; intro a H
          refine e_opg H (wanted_true H rfl rfl rfl rfl) rfl (by decide) (x_move H rfl rfl) ?_
          clear H a; intro a H
          refine e_skip H (wanted_false H rfl rfl rfl rfl) rfl (by decide) ?_
          clear H a; intro a H
          refine e_skip H (wanted_false H rfl rfl rfl rfl) rfl (by decide) ?_
          clear H a; intro a H
          refine e_opg H (wanted_true H rfl rfl rfl rfl) rfl (by decide) (x_pickF H rfl rfl rfl) ?_
          clear H a; intro a H
          refine e_op H rfl rfl (by decide) (x_pickF H rfl rfl rfl) ?_
          clear H a; intro a H
          refine e_nil (hR.out _ _ ?_)
          clear hR R
          exact ⟨rfl, H.sub ⟨rfl, rfl, rfl, rfl, rfl, trivial⟩, rfl⟩
        · skip
          clear i1 i2 hne
          refine e_region (fun R hR => ?_)
          refine e_op H rfl rfl (by decide) (x_move H rfl rfl) ?_
          clear H a; intro a H
          refine e_op H rfl rfl (by decide) (x_binI H rfl rfl rfl (b_neq (b := false) (bne_f (by omega)))) ?_
          clear H a; intro a H
          refine e_op H rfl rfl (by decide) (x_move H rfl rfl) ?_
          clear H a; intro a H
          refine e_skip H (wanted_false H rfl rfl rfl rfl) rfl (by decide) ?_
          clear H a; intro a H
          refine e_skip H (wanted_false H rfl rfl rfl rfl) rfl (by decide) ?_
          clear H a; intro a H
          refine e_op H rfl rfl (by decide) (x_pickF H rfl rfl rfl) ?_
          clear H a; intro a H
          refine e_op H rfl rfl (by decide) (x_move H rfl rfl) ?_
          clear H a; intro a H
          refine e_skip H (wanted_false H rfl rfl rfl rfl) rfl (by decide) ?_
          clear H a; intro a H
          refine e_skip H (wanted_false H rfl rfl rfl rfl) rfl (by decide) ?_
          clear H a; intro a H
          refine e_op H rfl rfl (by decide) (x_pickF H rfl rfl rfl) ?_
          clear H a; intro a H
          refine e_op H rfl rfl (by decide) (x_move H rfl rfl) ?_
          clear H a; intro a H
          refine e_skip H (wanted_false H rfl rfl rfl rfl) rfl (by decide) ?_
          clear H a; intro a H
          refine e_skip H (wanted_false H rfl rfl rfl rfl) rfl (by decide) ?_
          clear H a; intro a H
          refine e_op H rfl rfl (by decide) (x_pickF H rfl rfl rfl) ?_
          clear H a; intro a H
          refine e_op H rfl rfl (by decide) (x_move H rfl rfl) ?_
          clear H a; intro a H
          refine e_opg H (wanted_true H rfl rfl rfl rfl) rfl (by decide) (x_move H rfl rfl) ?_
          clear H a; intro a H
          refine e_opg H (wanted_true H rfl rfl rfl rfl) rfl (by decide) (x_binI H rfl rfl rfl (b_neq (b := true) (bne_t (by omega)))) ?_
          clear H a; intro a H
          refine e_opg H (wanted_true H rfl rfl rfl rfl) rfl (by decide) (x_move H rfl rfl) ?_
          clear H a; intro a H
          refine e_opg H (wanted_true H rfl rfl rfl rfl) rfl (by decide) (x_move H rfl rfl) ?_
          clear H a; intro a H
          refine e_opg H (wanted_true H rfl rfl rfl rfl) rfl (by decide) (x_binI H rfl rfl rfl (b_neq (b := false) (bne_f (by omega)))) ?_
          clear H a; intro a H
          refine e_opg H (wanted_true H rfl rfl rfl rfl) rfl (by decide) (x_pickT H rfl rfl rfl) ?_
          clear H a; intro a H
          refine e_opg H (wanted_true H rfl rfl rfl rfl) rfl (by decide) (x_move H rfl rfl) ?_
          clear H a; intro a H
          refine e_skip H (wanted_false H rfl rfl rfl rfl) rfl (by decide) ?_
          clear H a; intro a H
          refine e_skip H (wanted_false H rfl rfl rfl rfl) rfl (by decide) ?_
          clear H a; intro a H
          refine e_opg H (wanted_true H rfl rfl rfl rfl) rfl (by decide) (x_pickF H rfl rfl rfl) ?_
          clear H a; intro a H
          refine e_opg H (wanted_true H rfl rfl rfl rfl) rfl (by decide) (x_move H rfl rfl) ?_
          clear H a; intro a H
          refine e_skip H (wanted_false H rfl rfl rfl rfl) rfl (by decide) ?_
          clear H a; intro a H
          refine e_skip H (wanted_false H rfl rfl rfl rfl) rfl (by decide) ?_
          clear H a; intro a H
          refine e_opg H (wanted_true H rfl rfl rfl rfl) rfl (by decide) (x_pickF H rfl rfl rfl) ?_
          clear H a; intro a H
          refine e_op H rfl rfl (by decide) (x_pickF H rfl rfl rfl) ?_
          clear H a; intro a H
          refine e_nil (hR.out _ _ ?_)
          clear hR R
          exact ⟨rfl, H.sub ⟨rfl, rfl, rfl, rfl, rfl, trivial⟩, rfl⟩
        · skip
          clear i1 i2 hne
          refine e_region (fun R hR => ?_)
          refine e_op H rfl rfl (by decide) (x_move H rfl rfl) ?_
          clear H a; intro a H
          refine e_op H rfl rfl (by decide) (x_binI H rfl rfl rfl (b_neq (b := false) (bne_f (by omega)))) ?_
          clear H a; intro a H
          refine e_op H rfl rfl (by decide) (x_move H rfl rfl) ?_
          clear H a; intro a H
          refine e_skip H (wanted_false H rfl rfl rfl rfl) rfl (by decide) ?_
          clear H a; intro a H
          refine e_skip H (wanted_false H rfl rfl rfl rfl) rfl (by decide) ?_
          clear H a; intro a H
          refine e_op H rfl rfl (by decide) (x_pickF H rfl rfl rfl) ?_
          clear H a; intro a H
          refine e_op H rfl rfl (by decide) (x_move H rfl rfl) ?_
          clear H a; intro a H
          refine e_skip H (wanted_false H rfl rfl rfl rfl) rfl (by decide) ?_
          clear H a; intro a H
          refine e_skip H (wanted_false H rfl rfl rfl rfl) rfl (by decide) ?_
          clear H a; intro a H
          refine e_op H rfl rfl (by decide) (x_pickF H rfl rfl rfl) ?_
          clear H a; intro a H
          refine e_op H rfl rfl (by decide) (x_move H rfl rfl) ?_
          clear H a; intro a H
          refine e_skip H (wanted_false H rfl rfl rfl rfl) rfl (by decide) ?_
          clear H a; intro a H
          refine e_skip H (wanted_false H rfl rfl rfl rfl) rfl (by decide) ?_
          clear H a; intro a H
          refine e_op H rfl rfl (by decide) (x_pickF H rfl rfl rfl) ?_
          clear H a; intro a H
          refine e_op H rfl rfl (by decide) (x_move H rfl rfl) ?_
          clear H a; intro a H
          refine e_opg H (wanted_true H rfl rfl rfl rfl) rfl (by decide) (x_move H rfl rfl) ?_
          clear H a; intro a H
          refine e_opg H (wanted_true H rfl rfl rfl rfl) rfl (by decide) (x_binI H rfl rfl rfl (b_neq (b := true) (bne_t (by omega)))) ?_
          clear H a; intro a H
          refine e_opg H (wanted_true H rfl rfl rfl rfl) rfl (by decide) (x_move H rfl rfl) ?_
          clear H a; intro a H
          refine e_opg H (wanted_true H rfl rfl rfl rfl) rfl (by decide) (x_move H rfl rfl) ?_
          clear H a; intro a H
          refine e_opg H (wanted_true H rfl rfl rfl rfl) rfl (by decide) (x_binI H rfl rfl rfl (b_neq (b := true) (bne_t (by omega)))) ?_
          clear H a; intro a H
          refine e_opg H (wanted_true H rfl rfl rfl rfl) rfl (by decide) (x_pickT H rfl rfl rfl) ?_
          clear H a; intro a H
          refine e_opg H (wanted_true H rfl rfl rfl rfl) rfl (by decide) (x_move H rfl rfl) ?_
          clear H a; intro a H
          refine e_opg H (wanted_true H rfl rfl rfl rfl) rfl (by decide) (x_move H rfl rfl) ?_
          clear H a; intro a H
          refine e_opg H (wanted_true H rfl rfl rfl rfl) rfl (by decide) (x_binI H rfl rfl rfl (b_neq (b := false) (bne_f (by omega)))) ?_
          clear H a; intro a H
          refine e_opg H (wanted_true H rfl rfl rfl rfl) rfl (by decide) (x_pickT H rfl rfl rfl) ?_
          clear H a; intro a H
          refine e_opg H (wanted_true H rfl rfl rfl rfl) rfl (by decide) (x_move H rfl rfl) ?_
          clear H a; intro a H
          refine e_skip H (wanted_false H rfl rfl rfl rfl) rfl (by decide) ?_
          clear H a; intro a H
          refine e_skip H (wanted_false H rfl rfl rfl rfl) rfl (by decide) ?_
          clear H a; intro a H
          refine e_opg H (wanted_true H rfl rfl rfl rfl) rfl (by decide) (x_pickF H rfl rfl rfl) ?_
          clear H a; intro a H
          refine e_op H rfl rfl (by decide) (x_pickF H rfl rfl rfl) ?_
          clear H a; intro a H
          refine e_nil (hR.out _ _ ?_)
          clear hR R
          exact ⟨rfl, H.sub ⟨rfl, rfl, rfl, rfl, rfl, trivial⟩, rfl⟩
        · skip
          clear i1 i2 hne
          refine e_region (fun R hR => ?_)
          refine e_op H rfl rfl (by decide) (x_move H rfl rfl) ?_
          clear H a; intro a H
          refine e_op H rfl rfl (by decide) (x_binI H rfl rfl rfl (b_neq (b := false) (bne_f (by omega)))) ?_
          clear H a; intro a H
          refine e_op H rfl rfl (by decide) (x_move H rfl rfl) ?_
          clear H a; intro a H
          refine e_skip H (wanted_false H rfl rfl rfl rfl) rfl (by decide) ?_
          clear H a; intro a H
          refine e_skip H (wanted_false H rfl rfl rfl rfl) rfl (by decide) ?_
          clear H a; intro a H
          refine e_op H rfl rfl (by decide) (x_pickF H rfl rfl rfl) ?_
          clear H a; intro a H
          refine e_op H rfl rfl (by decide) (x_move H rfl rfl) ?_
          clear H a; intro a H
          refine e_skip H (wanted_false H rfl rfl rfl rfl) rfl (by decide) ?_
          clear H a; intro a H
          refine e_skip H (wanted_false H rfl rfl rfl rfl) rfl (by decide) ?_
          clear H a; intro a H
          refine e_op H rfl rfl (by decide) (x_pickF H rfl rfl rfl) ?_
          clear H a; intro a H
          refine e_op H rfl rfl (by decide) (x_move H rfl rfl) ?_
          clear H a; intro a H
          refine e_skip H (wanted_false H rfl rfl rfl rfl) rfl (by decide) ?_
          clear H a; intro a H
          refine e_skip H (wanted_false H rfl rfl rfl rfl) rfl (by decide) ?_
          clear H a; intro a H
          refine e_op H rfl rfl (by decide) (x_pickF H rfl rfl rfl) ?_
          clear H a; intro a H
          refine e_op H rfl rfl (by decide) (x_move H rfl rfl) ?_
          clear H a; intro a H
          refine e_opg H (wanted_true H rfl rfl rfl rfl) rfl (by decide) (x_move H rfl rfl) ?_
          clear H a; intro a H
          refine e_opg H (wanted_true H rfl rfl rfl rfl) rfl (by decide) (x_binI H rfl rfl rfl (b_neq (b := true) (bne_t (by omega)))) ?_
          clear H a; intro a H
          refine e_opg H (wanted_true H rfl rfl rfl rfl) rfl (by decide) (x_move H rfl rfl) ?_
          clear H a; intro a H
          refine e_opg H (wanted_true H rfl rfl rfl rfl) rfl (by decide) (x_move H rfl rfl) ?_
          clear H a; intro a H
          refine e_opg H (wanted_true H rfl rfl rfl rfl) rfl (by decide) (x_binI H rfl rfl rfl (b_neq (b := true) (bne_t (by omega)))) ?_
          clear H a; intro a H
          refine e_opg H (wanted_true H rfl rfl rfl rfl) rfl (by decide) (x_pickT H rfl rfl rfl) ?_
          clear H a; intro a H
          refine e_opg H (wanted_true H rfl rfl rfl rfl) rfl (by decide) (x_move H rfl rfl) ?_
          clear H a; intro a H
          refine e_opg H (wanted_true H rfl rfl rfl rfl) rfl (by decide) (x_move H rfl rfl) ?_
          clear H a; intro a H
          refine e_opg H (wanted_true H rfl rfl rfl rfl) rfl (by decide) (x_binI H rfl rfl rfl (b_neq (b := true) (bne_t (by omega)))) ?_
          clear H a; intro a H
          refine e_opg H (wanted_true H rfl rfl rfl rfl) rfl (by decide) (x_pickT H rfl rfl rfl) ?_
          clear H a; intro a H
          refine e_opg H (wanted_true H rfl rfl rfl rfl) rfl (by decide) (x_move H rfl rfl) ?_
          clear H a; intro a H
          refine e_opg H (wanted_true H rfl rfl rfl rfl) rfl (by decide) (x_move H rfl rfl) ?_
          clear H a; intro a H
          refine e_opg H (wanted_true H rfl rfl rfl rfl) rfl (by decide) (x_binI H rfl rfl rfl (b_neq (b := false) (bne_f (by omega)))) ?_
          clear H a; intro a H
          refine e_opg H (wanted_true H rfl rfl rfl rfl) rfl (by decide) (x_pickT H rfl rfl rfl) ?_
          clear H a; intro a H
          refine e_op H rfl rfl (by decide) (x_pickF H rfl rfl rfl) ?_
          clear H a; intro a H
          refine e_nil (hR.out _ _ ?_)
          clear hR R
          exact ⟨rfl, H.sub ⟨rfl, rfl, rfl, rfl, rfl, trivial⟩, rfl⟩
        · skip
          clear i1 i2 hne
          refine e_region (fun R hR => ?_)
          refine e_op H rfl rfl (by decide) (x_move H rfl rfl) ?_
          clear H a; intro a H
          refine e_op H rfl rfl (by decide) (x_binI H rfl rfl rfl (b_neq (b := true) (bne_t (by omega)))) ?_
          clear H a; intro a H
          refine e_op H rfl rfl (by decide) (x_move H rfl rfl) ?_
          clear H a; intro a H
          refine e_opg H (wanted_true H rfl rfl rfl rfl) rfl (by decide) (x_move H rfl rfl) ?_
          clear H a; intro a H
          refine e_opg H (wanted_true H rfl rfl rfl rfl) rfl (by decide) (x_binI H rfl rfl rfl (b_neq (b := false) (bne_f (by omega)))) ?_
          clear H a; intro a H
          refine e_op H rfl rfl (by decide) (x_pickT H rfl rfl rfl) ?_
          clear H a; intro a H
          refine e_op H rfl rfl (by decide) (x_move H rfl rfl) ?_
          clear H a; intro a H
          refine e_skip H (wanted_false H rfl rfl rfl rfl) rfl (by decide) ?_
          clear H a; intro a H
          refine e_skip H (wanted_false H rfl rfl rfl rfl) rfl (by decide) ?_
          clear H a; intro a H
          refine e_op H rfl rfl (by decide) (x_pickF H rfl rfl rfl) ?_
          clear H a; intro a H
          refine e_op H rfl rfl (by decide) (x_move H rfl rfl) ?_
          clear H a; intro a H
          refine e_skip H (wanted_false H rfl rfl rfl rfl) rfl (by decide) ?_
          clear H a; intro a H
          refine e_skip H (wanted_false H rfl rfl rfl rfl) rfl (by decide) ?_
          clear H a; intro a H
          refine e_op H rfl rfl (by decide) (x_pickF H rfl rfl rfl) ?_
          clear H a; intro a H
          refine e_op H rfl rfl (by decide) (x_move H rfl rfl) ?_
          clear H a; intro a H
          refine e_opg H (wanted_true H rfl rfl rfl rfl) rfl (by decide) (x_move H rfl rfl) ?_
          clear H a; intro a H
          refine e_opg H (wanted_true H rfl rfl rfl rfl) rfl (by decide) (x_binI H rfl rfl rfl (b_neq (b := false) (bne_f (by omega)))) ?_
          clear H a; intro a H
          refine e_opg H (wanted_true H rfl rfl rfl rfl) rfl (by decide) (x_move H rfl rfl) ?_
          clear H a; intro a H
          refine e_skip H (wanted_false H rfl rfl rfl rfl) rfl (by decide) ?_
          clear H a; intro a H
          refine e_skip H (wanted_false H rfl rfl rfl rfl) rfl (by decide) ?_
          clear H a; intro a H
          refine e_opg H (wanted_true H rfl rfl rfl rfl) rfl (by decide) (x_pickF H rfl rfl rfl) ?_
          clear H a; intro a H
          refine e_opg H (wanted_true H rfl rfl rfl rfl) rfl (by decide) (x_move H rfl rfl) ?_
          clear H a; intro a H
          refine e_skip H (wanted_false H rfl rfl rfl rfl) rfl (by decide) ?_
          clear H a; intro a H
          refine e_skip H (wanted_false H rfl rfl rfl rfl) rfl (by decide) ?_
          clear H a; intro a H
          refine e_opg H (wanted_true H rfl rfl rfl rfl) rfl (by decide) (x_pickF H rfl rfl rfl) ?_
          clear H a; intro a H
          refine e_opg H (wanted_true H rfl rfl rfl rfl) rfl (by decide) (x_move H rfl rfl) ?_
          clear H a; intro a H
          refine e_skip H (wanted_false H rfl rfl rfl rfl) rfl (by decide) ?_
          clear H a; intro a H
          refine e_skip H (wanted_false H rfl rfl rfl rfl) rfl (by decide) ?_
          clear H a; intro a H
          refine e_opg H (wanted_true H rfl rfl rfl rfl) rfl (by decide) (x_pickF H rfl rfl rfl) ?_
          clear H a; intro a H
          refine e_op H rfl rfl (by decide) (x_pickF H rfl rfl rfl) ?_
          clear H a; intro a H
          refine e_nil (hR.out _ _ ?_)
          clear hR R
          exact ⟨rfl, H.sub ⟨rfl, rfl, rfl, rfl, rfl, trivial⟩, rfl⟩
        · skip
          clear i1 i2 hne
          refine e_region (fun R hR => ?_)
          refine e_op H rfl rfl (by decide) (x_move H rfl rfl) ?_
          clear H a; intro a H
          refine e_op H rfl rfl (by decide) (x_binI H rfl rfl rfl (b_neq (b := true) (bne_t (by omega)))) ?_
          clear H a; intro a H
          refine e_op H rfl rfl (by decide) (x_move H rfl rfl) ?_
          clear H a; intro a H
          refine e_opg H (wanted_true H rfl rfl rfl rfl) rfl (by decide) (x_move H rfl rfl) ?_
          clear H a; intro a H
          refine e_opg H (wanted_true H rfl rfl rfl rfl) rfl (by decide) (x_binI H rfl rfl rfl (b_neq (b := false) (bne_f (by omega)))) ?_
          clear H a; intro a H
          refine e_op H rfl rfl (by decide) (x_pickT H rfl rfl rfl) ?_
          clear H a; intro a H
          refine e_op H rfl rfl (by decide) (x_move H rfl rfl) ?_
          clear H a; intro a H
          refine e_skip H (wanted_false H rfl rfl rfl rfl) rfl (by decide) ?_
          clear H a; intro a H
          refine e_skip H (wanted_false H rfl rfl rfl rfl) rfl (by decide) ?_
          clear H a; intro a H
          refine e_op H rfl rfl (by decide) (x_pickF H rfl rfl rfl) ?_
          clear H a; intro a H
          refine e_op H rfl rfl (by decide) (x_move H rfl rfl) ?_
          clear H a; intro a H
          refine e_skip H (wanted_false H rfl rfl rfl rfl) rfl (by decide) ?_
          clear H a; intro a H
          refine e_skip H (wanted_false H rfl rfl rfl rfl) rfl (by decide) ?_
          clear H a; intro a H
          refine e_op H rfl rfl (by decide) (x_pickF H rfl rfl rfl) ?_
          clear H a; intro a H
          refine e_op H rfl rfl (by decide) (x_move H rfl rfl) ?_
          clear H a; intro a H
          refine e_opg H (wanted_true H rfl rfl rfl rfl) rfl (by decide) (x_move H rfl rfl) ?_
          clear H a; intro a H
          refine e_opg H (wanted_true H rfl rfl rfl rfl) rfl (by decide) (x_binI H rfl rfl rfl (b_neq (b := true) (bne_t (by omega)))) ?_
          clear H a; intro a H
          refine e_opg H (wanted_true H rfl rfl rfl rfl) rfl (by decide) (x_move H rfl rfl) ?_
          clear H a; intro a H
          refine e_opg H (wanted_true H rfl rfl rfl rfl) rfl (by decide) (x_move H rfl rfl) ?_
          clear H a; intro a H
          refine e_opg H (wanted_true H rfl rfl rfl rfl) rfl (by decide) (x_binI H rfl rfl rfl (b_neq (b := false) (bne_f (by omega)))) ?_
          clear H a; intro a H
          refine e_opg H (wanted_true H rfl rfl rfl rfl) rfl (by decide) (x_pickT H rfl rfl rfl) ?_
          clear H a; intro a H
          refine e_opg H (wanted_true H rfl rfl rfl rfl) rfl (by decide) (x_move H rfl rfl) ?_
          clear H a; intro a H
          refine e_skip H (wanted_false H rfl rfl rfl rfl) rfl (by decide) ?_
          clear H a; intro a H
          refine e_skip H (wanted_false H rfl rfl rfl rfl) rfl (by decide) ?_
          clear H a; intro a H
          refine e_opg H (wanted_true H rfl rfl rfl rfl) rfl (by decide) (x_pickF H rfl rfl rfl) ?_
          clear H a; intro a H
          refine e_opg H (wanted_true H rfl rfl rfl rfl) rfl (by decide) (x_move H rfl rfl) ?_
          clear H a; intro a H
          refine e_skip H (wanted_false H rfl rfl rfl rfl) rfl (by decide) ?_
          clear H a; intro a H
          refine e_skip H (wanted_false H rfl rfl rfl rfl) rfl (by decide) ?_
          clear H a; intro a H
          refine e_opg H (wanted_true H rfl rfl rfl rfl) rfl (by decide) (x_pickF H rfl rfl rfl) ?_
          clear H a; intro a H
          refine e_op H rfl rfl (by decide) (x_pickF H rfl rfl rfl) ?_
          clear H a; intro a H
          refine e_nil (hR.out _ _ ?_)
          clear hR R
          exact ⟨rfl, H.sub ⟨rfl, rfl, rfl, rfl, rfl, trivial⟩, rfl⟩
        · skip
          clear i1 i2 hne
          refine e_region (fun R hR => ?_)
          refine e_op H rfl rfl (by decide) (x_move H rfl rfl) ?_
          clear H a; intro a H
          refine e_op H rfl rfl (by decide) (x_binI H rfl rfl rfl (b_neq (b := true) (bne_t (by omega)))) ?_
          clear H a; intro a H
          refine e_op H rfl rfl (by decide) (x_move H rfl rfl) ?_
          clear H a; intro a H
          refine e_opg H (wanted_true H rfl rfl rfl rfl) rfl (by decide) (x_move H rfl rfl) ?_
          clear H a; intro a H
          refine e_opg H (wanted_true H rfl rfl rfl rfl) rfl (by decide) (x_binI H rfl rfl rfl (b_neq (b := false) (bne_f (by omega)))) ?_
          clear H a; intro a H
          refine e_op H rfl rfl (by decide) (x_pickT H rfl rfl rfl) ?_
          clear H a; intro a H
          refine e_op H rfl rfl (by decide) (x_move H rfl rfl) ?_
          clear H a; intro a H
          refine e_skip H (wanted_false H rfl rfl rfl rfl) rfl (by decide) ?_
          clear H a; intro a H
          refine e_skip H (wanted_false H rfl rfl rfl rfl) rfl (by decide) ?_
          clear H a; intro a H
          refine e_op H rfl rfl (by decide) (x_pickF H rfl rfl rfl) ?_
          clear H a; intro a H
          refine e_op H rfl rfl (by decide) (x_move H rfl rfl) ?_
          clear H a; intro a H
          refine e_skip H (wanted_false H rfl rfl rfl rfl) rfl (by decide) ?_
          clear H a; intro a H
          refine e_skip H (wanted_false H rfl rfl rfl rfl) rfl (by decide) ?_
          clear H a; intro a H
          refine e_op H rfl rfl (by decide) (x_pickF H rfl rfl rfl) ?_
          clear H a; intro a H
          refine e_op H rfl rfl (by decide) (x_move H rfl rfl) ?_
          clear H a; intro a H
          refine e_opg H (wanted_true H rfl rfl rfl rfl) rfl (by decide) (x_move H rfl rfl) ?_
          clear H a; intro a H
          refine e_opg H (wanted_true H rfl rfl rfl rfl) rfl (by decide) (x_binI H rfl rfl rfl (b_neq (b := true) (bne_t (by omega)))) ?_
          clear H a; intro a H
          refine e_opg H (wanted_true H rfl rfl rfl rfl) rfl (by decide) (x_move H rfl rfl) ?_
          clear H a; intro a H
          refine e_opg H (wanted_true H rfl rfl rfl rfl) rfl (by decide) (x_move H rfl rfl) ?_
          clear H a; intro a H
          refine e_opg H (wanted_true H rfl rfl rfl rfl) rfl (by decide) (x_binI H rfl rfl rfl (b_neq (b := true) (bne_t (by omega)))) ?_
          clear H a; intro a H
          refine e_opg H (wanted_true H rfl rfl rfl rfl) rfl (by decide) (x_pickT H rfl rfl rfl) ?_
          clear H a; intro a H
          refine e_opg H (wanted_true H rfl rfl rfl rfl) rfl (by decide) (x_move H rfl rfl) ?_
          clear H a; intro a H
          refine e_opg H (wanted_true H rfl rfl rfl rfl) rfl (by decide) (x_move H rfl rfl) ?_
          clear H a; intro a H
          refine e_opg H (wanted_true H rfl rfl rfl rfl) rfl (by decide) (x_binI H rfl rfl rfl (b_neq (b := false) (bne_f (by omega)))) ?_
          clear H a; intro a H
          refine e_opg H (wanted_true H rfl rfl rfl rfl) rfl (by decide) (x_pickT H rfl rfl rfl) ?_
          clear H a; intro a H
          refine e_opg H (wanted_true H rfl rfl rfl rfl) rfl (by decide) (x_move H rfl rfl) ?_
          clear H a; intro a H
          refine e_skip H (wanted_false H rfl rfl rfl rfl) rfl (by decide) ?_
          clear H a; intro a H
          refine e_skip H (wanted_false H rfl rfl rfl rfl) rfl (by decide) ?_
          clear H a; intro a H
          refine e_opg H (wanted_true H rfl rfl rfl rfl) rfl (by decide) (x_pickF H rfl rfl rfl) ?_
          clear H a; intro a H
          refine e_op H rfl rfl (by decide) (x_pickF H rfl rfl rfl) ?_
          clear H a; intro a H
          refine e_nil (hR.out _ _ ?_)
          clear hR R
          exact ⟨rfl, H.sub ⟨rfl, rfl, rfl, rfl, rfl, trivial⟩, rfl⟩
        · skip
          clear i1 i2 hne
          refine e_region (fun R hR => ?_)
          refine e_op H rfl rfl (by decide) (x_move H rfl rfl) ?_
          clear H a; intro a H
          refine e_op H rfl rfl (by decide) (x_binI H rfl rfl rfl (b_neq (b := true) (bne_t (by omega)))) ?_
          clear H a; intro a H
          refine e_op H rfl rfl (by decide) (x_move H rfl rfl) ?_
          clear H a; intro a H
          refine e_opg H (wanted_true H rfl rfl rfl rfl) rfl (by decide) (x_move H rfl rfl) ?_
          clear H a; intro a H
          refine e_opg H (wanted_true H rfl rfl rfl rfl) rfl (by decide) (x_binI H rfl rfl rfl (b_neq (b := false) (bne_f (by omega)))) ?_
          clear H a; intro a H
          refine e_op H rfl rfl (by decide) (x_pickT H rfl rfl rfl) ?_
          clear H a; intro a H
          refine e_op H rfl rfl (by decide) (x_move H rfl rfl) ?_
          clear H a; intro a H
          refine e_skip H (wanted_false H rfl rfl rfl rfl) rfl (by decide) ?_
          clear H a; intro a H
          refine e_skip H (wanted_false H rfl rfl rfl rfl) rfl (by decide) ?_
          clear H a; intro a H
          refine e_op H rfl rfl (by decide) (x_pickF H rfl rfl rfl) ?_
          clear H a; intro a H
          refine e_op H rfl rfl (by decide) (x_move H rfl rfl) ?_
          clear H a; intro a H
          refine e_skip H (wanted_false H rfl rfl rfl rfl) rfl (by decide) ?_
          clear H a; intro a H
          refine e_skip H (wanted_false H rfl rfl rfl rfl) rfl (by decide) ?_
          clear H a; intro a H
          refine e_op H rfl rfl (by decide) (x_pickF H rfl rfl rfl) ?_
          clear H a; intro a H
          refine e_op H rfl rfl (by decide) (x_move H rfl rfl) ?_
          clear H a; intro a H
          refine e_opg H (wanted_true H rfl rfl rfl rfl) rfl (by decide) (x_move H rfl rfl) ?_
          clear H a; intro a H
          refine e_opg H (wanted_true H rfl rfl rfl rfl) rfl (by decide) (x_binI H rfl rfl rfl (b_neq (b := true) (bne_t (by omega)))) ?_
          clear H a; intro a H
          refine e_opg H (wanted_true H rfl rfl rfl rfl) rfl (by decide) (x_move H rfl rfl) ?_
          clear H a; intro a H
          refine e_opg H (wanted_true H rfl rfl rfl rfl) rfl (by decide) (x_move H rfl rfl) ?_
          clear H a; intro a H
          refine e_opg H (wanted_true H rfl rfl rfl rfl) rfl (by decide) (x_binI H rfl rfl rfl (b_neq (b := true) (bne_t (by omega)))) ?_
          clear H a; intro a H
          refine e_opg H (wanted_true H rfl rfl rfl rfl) rfl (by decide) (x_pickT H rfl rfl rfl) ?_
          clear H a; intro a H
          refine e_opg H (wanted_true H rfl rfl rfl rfl) rfl (by decide) (x_move H rfl rfl) ?_
          clear H a; intro a H
          refine e_opg H (wanted_true H rfl rfl rfl rfl) rfl (by decide) (x_move H rfl rfl) ?_
          clear H a; intro a H
          refine e_opg H (wanted_true H rfl rfl rfl rfl) rfl (by decide) (x_binI H rfl rfl rfl (b_neq (b := true) (bne_t (by omega)))) ?_
          clear H a; intro a H
          refine e_opg H (wanted_true H rfl rfl rfl rfl) rfl (by decide) (x_pickT H rfl rfl rfl) ?_
          clear H a; intro a H
          refine e_opg H (wanted_true H rfl rfl rfl rfl) rfl (by decide) (x_move H rfl rfl) ?_
          clear H a; intro a H
          refine e_opg H (wanted_true H rfl rfl rfl rfl) rfl (by decide) (x_move H rfl rfl) ?_
          clear H a; intro a H
          refine e_opg H (wanted_true H rfl rfl rfl rfl) rfl (by decide) (x_binI H rfl rfl rfl (b_neq (b := false) (bne_f (by omega)))) ?_
          clear H a; intro a H
          refine e_opg H (wanted_true H rfl rfl rfl rfl) rfl (by decide) (x_pickT H rfl rfl rfl) ?_
          clear H a; intro a H
          refine e_op H rfl rfl (by decide) (x_pickF H rfl rfl rfl) ?_
          clear H a; intro a H
          refine e_nil (hR.out _ _ ?_)
          clear hR R
          exact ⟨rfl, H.sub ⟨rfl, rfl, rfl, rfl, rfl, trivial⟩, rfl⟩
        · skip
          clear i1 i2 hne
          refine e_region (fun R hR => ?_)
          refine e_op H rfl rfl (by decide) (x_move H rfl rfl) ?_
          clear H a; intro a H
          refine e_op H rfl rfl (by decide) (x_binI H rfl rfl rfl (b_neq (b := true) (bne_t (by omega)))) ?_
          clear H a; intro a H
          refine e_op H rfl rfl (by decide) (x_move H rfl rfl) ?_
          clear H a; intro a H
          refine e_opg H (wanted_true H rfl rfl rfl rfl) rfl (by decide) (x_move H rfl rfl) ?_
          clear H a; intro a H
          refine e_opg H (wanted_true H rfl rfl rfl rfl) rfl (by decide) (x_binI H rfl rfl rfl (b_neq (b := true) (bne_t (by omega)))) ?_
          clear H a; intro a H
          refine e_op H rfl rfl (by decide) (x_pickT H rfl rfl rfl) ?_
          clear H a; intro a H
          refine e_op H rfl rfl (by decide) (x_move H rfl rfl) ?_
          clear H a; intro a H
          refine e_opg H (wanted_true H rfl rfl rfl rfl) rfl (by decide) (x_move H rfl rfl) ?_
          clear H a; intro a H
          refine e_opg H (wanted_true H rfl rfl rfl rfl) rfl (by decide) (x_binI H rfl rfl rfl (b_neq (b := false) (bne_f (by omega)))) ?_
          clear H a; intro a H
          refine e_op H rfl rfl (by decide) (x_pickT H rfl rfl rfl) ?_
          clear H a; intro a H
          refine e_op H rfl rfl (by decide) (x_move H rfl rfl) ?_
          clear H a; intro a H
          refine e_skip H (wanted_false H rfl rfl rfl rfl) rfl (by decide) ?_
          clear H a; intro a H
          refine e_skip H (wanted_false H rfl rfl rfl rfl) rfl (by decide) ?_
          clear H a; intro a H
          refine e_op H rfl rfl (by decide) (x_pickF H rfl rfl rfl) ?_
          clear H a; intro a H
          refine e_op H rfl rfl (by decide) (x_move H rfl rfl) ?_
          clear H a; intro a H
          refine e_opg H (wanted_true H rfl rfl rfl rfl) rfl (by decide) (x_move H rfl rfl) ?_
          clear H a; intro a H
          refine e_opg H (wanted_true H rfl rfl rfl rfl) rfl (by decide) (x_binI H rfl rfl rfl (b_neq (b := false) (bne_f (by omega)))) ?_
          clear H a; intro a H
          refine e_opg H (wanted_true H rfl rfl rfl rfl) rfl (by decide) (x_move H rfl rfl) ?_
          clear H a; intro a H
          refine e_skip H (wanted_false H rfl rfl rfl rfl) rfl (by decide) ?_
          clear H a; intro a H
          refine e_skip H (wanted_false H rfl rfl rfl rfl) rfl (by decide) ?_
          clear H a; intro a H
          refine e_opg H (wanted_true H rfl rfl rfl rfl) rfl (by decide) (x_pickF H rfl rfl rfl) ?_
          clear H a; intro a H
          refine e_opg H (wanted_true H rfl rfl rfl rfl) rfl (by decide) (x_move H rfl rfl) ?_
          clear H a; intro a H
          refine e_skip H (wanted_false H rfl rfl rfl rfl) rfl (by decide) ?_
          clear H a; intro a H
          refine e_skip H (wanted_false H rfl rfl rfl rfl) rfl (by decide) ?_
          clear H a; intro a H
          refine e_opg H (wanted_true H rfl rfl rfl rfl) rfl (by decide) (x_pickF H rfl rfl rfl) ?_
          clear H a; intro a H
          refine e_opg H (wanted_true H rfl rfl rfl rfl) rfl (by decide) (x_move H rfl rfl) ?_
          clear H a; intro a H
          refine e_skip H (wanted_false H rfl rfl rfl rfl) rfl (by decide) ?_
          clear H a; intro a H
          refine e_skip H (wanted_false H rfl rfl rfl rfl) rfl (by decide) ?_
          clear H a; intro a H
          refine e_opg H (wanted_true H rfl rfl rfl rfl) rfl (by decide) (x_pickF H rfl rfl rfl) ?_
          clear H a; intro a H
          refine e_op H rfl rfl (by decide) (x_pickF H rfl rfl rfl) ?_
          clear H a; intro a H
          refine e_nil (hR.out _ _ ?_)
          clear hR R
          exact ⟨rfl, H.sub ⟨rfl, rfl, rfl, rfl, rfl, trivial⟩, rfl⟩
        · skip
          clear i1 i2 hne
          refine e_region (fun R hR => ?_)
          refine e_op H rfl rfl (by decide) (x_move H rfl rfl) ?_
          clear H a; intro a H
          refine e_op H rfl rfl (by decide) (x_binI H rfl rfl rfl (b_neq (b := true) (bne_t (by omega)))) ?_
          clear H a; intro a H
          refine e_op H rfl rfl (by decide) (x_move H rfl rfl) ?_
          clear H a; intro a H
          refine e_opg H (wanted_true H rfl rfl rfl rfl) rfl (by decide) (x_move H rfl rfl) ?_
          clear H a; intro a H
          refine e_opg H (wanted_true H rfl rfl rfl rfl) rfl (by decide) (x_binI H rfl rfl rfl (b_neq (b := true) (bne_t (by omega)))) ?_
          clear H a; intro a H
          refine e_op H rfl rfl (by decide) (x_pickT H rfl rfl rfl) ?_
          clear H a; intro a H
          refine e_op H rfl rfl (by decide) (x_move H rfl rfl) ?_
          clear H a; intro a H
          refine e_opg H (wanted_true H rfl rfl rfl rfl) rfl (by decide) (x_move H rfl rfl) ?_
          clear H a; intro a H
          refine e_opg H (wanted_true H rfl rfl rfl rfl) rfl (by decide) (x_binI H rfl rfl rfl (b_neq (b := false) (bne_f (by omega)))) ?_
          clear H a; intro a H
          refine e_op H rfl rfl (by decide) (x_pickT H rfl rfl rfl) ?_
          clear H a; intro a H
          refine e_op H rfl rfl (by decide) (x_move H rfl rfl) ?_
          clear H a; intro a H
          refine e_skip H (wanted_false H rfl rfl rfl rfl) rfl (by decide) ?_
          clear H a; intro a H
          refine e_skip H (wanted_false H rfl rfl rfl rfl) rfl (by decide) ?_
          clear H a; intro a H
          refine e_op H rfl rfl (by decide) (x_pickF H rfl rfl rfl) ?_
          clear H a; intro a H
          refine e_op H rfl rfl (by decide) (x_move H rfl rfl) ?_
          clear H a; intro a H
          refine e_opg H (wanted_true H rfl rfl rfl rfl) rfl (by decide) (x_move H rfl rfl) ?_
          clear H a; intro a H
          refine e_opg H (wanted_true H rfl rfl rfl rfl) rfl (by decide) (x_binI H rfl rfl rfl (b_neq (b := true) (bne_t (by omega)))) ?_
          clear H a; intro a H
          refine e_opg H (wanted_true H rfl rfl rfl rfl) rfl (by decide) (x_move H rfl rfl) ?_
          clear H a; intro a H
          refine e_opg H (wanted_true H rfl rfl rfl rfl) rfl (by decide) (x_move H rfl rfl) ?_
          clear H a; intro a H
          refine e_opg H (wanted_true H rfl rfl rfl rfl) rfl (by decide) (x_binI H rfl rfl rfl (b_neq (b := false) (bne_f (by omega)))) ?_
          clear H a; intro a H
          refine e_opg H (wanted_true H rfl rfl rfl rfl) rfl (by decide) (x_pickT H rfl rfl rfl) ?_
          clear H a; intro a H
          refine e_opg H (wanted_true H rfl rfl rfl rfl) rfl (by decide) (x_move H rfl rfl) ?_
          clear H a; intro a H
          refine e_skip H (wanted_false H rfl rfl rfl rfl) rfl (by decide) ?_
          clear H a; intro a H
          refine e_skip H (wanted_false H rfl rfl rfl rfl) rfl (by decide) ?_
          clear H a; intro a H
          refine e_opg H (wanted_true H rfl rfl rfl rfl) rfl (by decide) (x_pickF H rfl rfl rfl) ?_
          clear H a; intro a H
          refine e_opg H (wanted_true H rfl rfl rfl rfl) rfl (by decide) (x_move H rfl rfl) ?_
          clear H a; intro a H
          refine e_skip H (wanted_false H rfl rfl rfl rfl) rfl (by decide) ?_
          clear H a; intro a H
          refine e_skip H (wanted_false H rfl rfl rfl rfl) rfl (by decide) ?_
          clear H a; intro a H
          refine e_opg H (wanted_true H rfl rfl rfl rfl) rfl (by decide) (x_pickF H rfl rfl rfl) ?_
          clear H a; intro a H
          refine e_op H rfl rfl (by decide) (x_pickF H rfl rfl rfl) ?_
          clear H a; intro a H
          refine e_nil (hR.out _ _ ?_)
          clear hR R
          exact ⟨rfl, H.sub ⟨rfl, rfl, rfl, rfl, rfl, trivial⟩, rfl⟩
        · skip
          clear i1 i2 hne
          refine e_region (fun R hR => ?_)
          refine e_op H rfl rfl (by decide) (x_move H rfl rfl) ?_
          clear H a; intro a H
          refine e_op H rfl rfl (by decide) (x_binI H rfl rfl rfl (b_neq (b := true) (bne_t (by omega)))) ?_
          clear H a; intro a H
          refine e_op H rfl rfl (by decide) (x_move H rfl rfl) ?_
          clear H a; intro a H
          refine e_opg H (wanted_true H rfl rfl rfl rfl) rfl (by decide) (x_move H rfl rfl) ?_
          clear H a; intro a H
          refine e_opg H (wanted_true H rfl rfl rfl rfl) rfl (by decide) (x_binI H rfl rfl rfl (b_neq (b := true) (bne_t (by omega)))) ?_
          clear H a; intro a H
          refine e_op H rfl rfl (by decide) (x_pickT H rfl rfl rfl) ?_
          clear H a; intro a H
          refine e_op H rfl rfl (by decide) (x_move H rfl rfl) ?_
          clear H a; intro a H
          refine e_opg H (wanted_true H rfl rfl rfl rfl) rfl (by decide) (x_move H rfl rfl) ?_
          clear H a; intro a H
          refine e_opg H (wanted_true H rfl rfl rfl rfl) rfl (by decide) (x_binI H rfl rfl rfl (b_neq (b := false) (bne_f (by omega)))) ?_
          clear H a; intro a H
          refine e_op H rfl rfl (by decide) (x_pickT H rfl rfl rfl) ?_
          clear H a; intro a H
          refine e_op H rfl rfl (by decide) (x_move H rfl rfl) ?_
          clear H a; intro a H
          refine e_skip H (wanted_false H rfl rfl rfl rfl) rfl (by decide) ?_
          clear H a; intro a H
          refine e_skip H (wanted_false H rfl rfl rfl rfl) rfl (by decide) ?_
          clear H a; intro a H
          refine e_op H rfl rfl (by decide) (x_pickF H rfl rfl rfl) ?_
          clear H a; intro a H
          refine e_op H rfl rfl (by decide) (x_move H rfl rfl) ?_
          clear H a; intro a H
          refine e_opg H (wanted_true H rfl rfl rfl rfl) rfl (by decide) (x_move H rfl rfl) ?_
          clear H a; intro a H
          refine e_opg H (wanted_true H rfl rfl rfl rfl) rfl (by decide) (x_binI H rfl rfl rfl (b_neq (b := true) (bne_t (by omega)))) ?_
          clear H a; intro a H
          refine e_opg H (wanted_true H rfl rfl rfl rfl) rfl (by decide) (x_move H rfl rfl) ?_
          clear H a; intro a H
          refine e_opg H (wanted_true H rfl rfl rfl rfl) rfl (by decide) (x_move H rfl rfl) ?_
          clear H a; intro a H
          refine e_opg H (wanted_true H rfl rfl rfl rfl) rfl (by decide) (x_binI H rfl rfl rfl (b_neq (b := true) (bne_t (by omega)))) ?_
          clear H a; intro a H
          refine e_opg H (wanted_true H rfl rfl rfl rfl) rfl (by decide) (x_pickT H rfl rfl rfl) ?_
          clear H a; intro a H
          refine e_opg H (wanted_true H rfl rfl rfl rfl) rfl (by decide) (x_move H rfl rfl) ?_
          clear H a; intro a H
          refine e_opg H (wanted_true H rfl rfl rfl rfl) rfl (by decide) (x_move H rfl rfl) ?_
          clear H a; intro a H
          refine e_opg H (wanted_true H rfl rfl rfl rfl) rfl (by decide) (x_binI H rfl rfl rfl (b_neq (b := false) (bne_f (by omega)))) ?_
          clear H a; intro a H
          refine e_opg H (wanted_true H rfl rfl rfl rfl) rfl (by decide) (x_pickT H rfl rfl rfl) ?_
          clear H a; intro a H
          refine e_opg H (wanted_true H rfl rfl rfl rfl) rfl (by decide) (x_move H rfl rfl) ?_
          clear H a; intro a H
          refine e_skip H (wanted_false H rfl rfl rfl rfl) rfl (by decide) ?_
          clear H a; intro a H
          refine e_skip H (wanted_false H rfl rfl rfl rfl) rfl (by decide) ?_
          clear H a; intro a H
          refine e_opg H (wanted_true H rfl rfl rfl rfl) rfl (by decide) (x_pickF H rfl rfl rfl) ?_
          clear H a; intro a H
          refine e_op H rfl rfl (by decide) (x_pickF H rfl rfl rfl) ?_
          clear H a; intro a H
          refine e_nil (hR.out _ _ ?_)
          clear hR R
          exact ⟨rfl, H.sub ⟨rfl, rfl, rfl, rfl, rfl, trivial⟩, rfl⟩
        · skip
          clear i1 i2 hne
          refine e_region (fun R hR => ?_)
          refine e_op H rfl rfl (by decide) (x_move H rfl rfl) ?_
          clear H a; intro a H
          refine e_op H rfl rfl (by decide) (x_binI H rfl rfl rfl (b_neq (b := true) (bne_t (by omega)))) ?_
          clear H a; intro a H
          refine e_op H rfl rfl (by decide) (x_move H rfl rfl) ?_
          clear H a; intro a H
          refine e_opg H (wanted_true H rfl rfl rfl rfl) rfl (by decide) (x_move H rfl rfl) ?_
          clear H a; intro a H
          refine e_opg H (wanted_true H rfl rfl rfl rfl) rfl (by decide) (x_binI H rfl rfl rfl (b_neq (b := true) (bne_t (by omega)))) ?_
          clear H a; intro a H
          refine e_op H rfl rfl (by decide) (x_pickT H rfl rfl rfl) ?_
          clear H a; intro a H
          refine e_op H rfl rfl (by decide) (x_move H rfl rfl) ?_
          clear H a; intro a H
          refine e_opg H (wanted_true H rfl rfl rfl rfl) rfl (by decide) (x_move H rfl rfl) ?_
          clear H a; intro a H
          refine e_opg H (wanted_true H rfl rfl rfl rfl) rfl (by decide) (x_binI H rfl rfl rfl (b_neq (b := false) (bne_f (by omega)))) ?_
          clear H a; intro a H
          refine e_op H rfl rfl (by decide) (x_pickT H rfl rfl rfl) ?_
          clear H a; intro a H
          refine e_op H rfl rfl (by decide) (x_move H rfl rfl) ?_
          clear H a; intro a H
          refine e_skip H (wanted_false H rfl rfl rfl rfl) rfl (by decide) ?_
          clear H a; intro a H
          refine e_skip H (wanted_false H rfl rfl rfl rfl) rfl (by decide) ?_
          clear H a; intro a H
          refine e_op H rfl rfl (by decide) (x_pickF H rfl rfl rfl) ?_
          clear H a; intro a H
          refine e_op H rfl rfl (by decide) (x_move H rfl rfl) ?_
          clear H a; intro a H
          refine e_opg H (wanted_true H rfl rfl rfl rfl) rfl (by decide) (x_move H rfl rfl) ?_
          clear H a; intro a H
          refine e_opg H (wanted_true H rfl rfl rfl rfl) rfl (by decide) (x_binI H rfl rfl rfl (b_neq (b := true) (bne_t (by omega)))) ?_
          clear H a; intro a H
          refine e_opg H (wanted_true H rfl rfl rfl rfl) rfl (by decide) (x_move H rfl rfl) ?_
          clear H a; intro a H
          refine e_opg H (wanted_true H rfl rfl rfl rfl) rfl (by decide) (x_move H rfl rfl) ?_
          clear H a; intro a H
          refine e_opg H (wanted_true H rfl rfl rfl rfl) rfl (by decide) (x_binI H rfl rfl rfl (b_neq (b := true) (bne_t (by omega)))) ?_
          clear H a; intro a H
          refine e_opg H (wanted_true H rfl rfl rfl rfl) rfl (by decide) (x_pickT H rfl rfl rfl) ?_
          clear H a; intro a H
          refine e_opg H (wanted_true H rfl rfl rfl rfl) rfl (by decide) (x_move H rfl rfl) ?_
          clear H a; intro a H
          refine e_opg H (wanted_true H rfl rfl rfl rfl) rfl (by decide) (x_move H rfl rfl) ?_
          clear H a; intro a H
          refine e_opg H (wanted_true H rfl rfl rfl rfl) rfl (by decide) (x_binI H rfl rfl rfl (b_neq (b := true) (bne_t (by omega)))) ?_
          clear H a; intro a H
          refine e_opg H (wanted_true H rfl rfl rfl rfl) rfl (by decide) (x_pickT H rfl rfl rfl) ?_
          clear H a; intro a H
          refine e_opg H (wanted_true H rfl rfl rfl rfl) rfl (by decide) (x_move H rfl rfl) ?_
          clear H a; intro a H
          refine e_opg H (wanted_true H rfl rfl rfl rfl) rfl (by decide) (x_move H rfl rfl) ?_
          clear H a; intro a H
          refine e_opg H (wanted_true H rfl rfl rfl rfl) rfl (by decide) (x_binI H rfl rfl rfl (b_neq (b := false) (bne_f (by omega)))) ?_
          clear H a; intro a H
          refine e_opg H (wanted_true H rfl rfl rfl rfl) rfl (by decide) (x_pickT H rfl rfl rfl) ?_
          clear H a; intro a H
          refine e_op H rfl rfl (by decide) (x_pickF H rfl rfl rfl) ?_
          clear H a; intro a H
          refine e_nil (hR.out _ _ ?_)
          clear hR R
          exact ⟨rfl, H.sub ⟨rfl, rfl, rfl, rfl, rfl, trivial⟩, rfl⟩
        · skip
          clear i1 i2 hne
          refine e_region (fun R hR => ?_)
          refine e_op H rfl rfl (by decide) (x_move H rfl rfl) ?_
          clear H a; intro a H
          refine e_op H rfl rfl (by decide) (x_binI H rfl rfl rfl (b_neq (b := true) (bne_t (by omega)))) ?_
          clear H a; intro a H
          refine e_op H rfl rfl (by decide) (x_move H rfl rfl) ?_
          clear H a; intro a H
          refine e_opg H (wanted_true H rfl rfl rfl rfl) rfl (by decide) (x_move H rfl rfl) ?_
          clear H a; intro a H
          refine e_opg H (wanted_true H rfl rfl rfl rfl) rfl (by decide) (x_binI H rfl rfl rfl (b_neq (b := true) (bne_t (by omega)))) ?_
          clear H a; intro a H
          refine e_op H rfl rfl (by decide) (x_pickT H rfl rfl rfl) ?_
          clear H a; intro a H
          refine e_op H rfl rfl (by decide) (x_move H rfl rfl) ?_
          clear H a; intro a H
          refine e_opg H (wanted_true H rfl rfl rfl rfl) rfl (by decide) (x_move H rfl rfl) ?_
          clear H a; intro a H
          refine e_opg H (wanted_true H rfl rfl rfl rfl) rfl (by decide) (x_binI H rfl rfl rfl (b_neq (b := true) (bne_t (by omega)))) ?_
          clear H a; intro a H
          refine e_op H rfl rfl (by decide) (x_pickT H rfl rfl rfl) ?_
          clear H a; intro a H
          refine e_op H rfl rfl (by decide) (x_move H rfl rfl) ?_
          clear H a; intro a H
          refine e_opg H (wanted_true H rfl rfl rfl rfl) rfl (by decide) (x_move H rfl rfl) ?_
          clear H a; intro a H
          refine e_opg H (wanted_true H rfl rfl rfl rfl) rfl (by decide) (x_binI H rfl rfl rfl (b_neq (b := false) (bne_f (by omega)))) ?_
          clear H a; intro a H
          refine e_op H rfl rfl (by decide) (x_pickT H rfl rfl rfl) ?_
          clear H a; intro a H
          refine e_op H rfl rfl (by decide) (x_move H rfl rfl) ?_
          clear H a; intro a H
          refine e_opg H (wanted_true H rfl rfl rfl rfl) rfl (by decide) (x_move H rfl rfl) ?_
          clear H a; intro a H
          refine e_opg H (wanted_true H rfl rfl rfl rfl) rfl (by decide) (x_binI H rfl rfl rfl (b_neq (b := false) (bne_f (by omega)))) ?_
          clear H a; intro a H
          refine e_opg H (wanted_true H rfl rfl rfl rfl) rfl (by decide) (x_move H rfl rfl) ?_
          clear H a; intro a H
          refine e_skip H (wanted_false H rfl rfl rfl rfl) rfl (by decide) ?_
          clear H a; intro a H
          refine e_skip H (wanted_false H rfl rfl rfl rfl) rfl (by decide) ?_
          clear H a; intro a H
          refine e_opg H (wanted_true H rfl rfl rfl rfl) rfl (by decide) (x_pickF H rfl rfl rfl) ?_
          clear H a; intro a H
          refine e_opg H (wanted_true H rfl rfl rfl rfl) rfl (by decide) (x_move H rfl rfl) ?_
          clear H a; intro a H
          refine e_skip H (wanted_false H rfl rfl rfl rfl) rfl (by decide) ?_
          clear H a; intro a H
          refine e_skip H (wanted_false H rfl rfl rfl rfl) rfl (by decide) ?_
          clear H a; intro a H
          refine e_opg H (wanted_true H rfl rfl rfl rfl) rfl (by decide) (x_pickF H rfl rfl rfl) ?_
          clear H a; intro a H
          refine e_opg H (wanted_true H rfl rfl rfl rfl) rfl (by decide) (x_move H rfl rfl) ?_
          clear H a; intro a H
          refine e_skip H (wanted_false H rfl rfl rfl rfl) rfl (by decide) ?_
          clear H a; intro a H
          refine e_skip H (wanted_false H rfl rfl rfl rfl) rfl (by decide) ?_
          clear H a; intro a H
          refine e_opg H (wanted_true H rfl rfl rfl rfl) rfl (by decide) (x_pickF H rfl rfl rfl) ?_
          clear H a; intro a H
          refine e_op H rfl rfl (by decide) (x_pickF H rfl rfl rfl) ?_
          clear H a; intro a H
          refine e_nil (hR.out _ _ ?_)
          clear hR R
          exact ⟨rfl, H.sub ⟨rfl, rfl, rfl, rfl, rfl, trivial⟩, rfl⟩
        · skip
          clear i1 i2 hne
          refine e_region (fun R hR => ?_)
          refine e_op H rfl rfl (by decide) (x_move H rfl rfl) ?_
          clear H a; intro a H
          refine e_op H rfl rfl (by decide) (x_binI H rfl rfl rfl (b_neq (b := true) (bne_t (by omega)))) ?_
          clear H a; intro a H
          refine e_op H rfl rfl (by decide) (x_move H rfl rfl) ?_
          clear H a; intro a H
          refine e_opg H (wanted_true H rfl rfl rfl rfl) rfl (by decide) (x_move H rfl rfl) ?_
          clear H a; intro a H
          refine e_opg H (wanted_true H rfl rfl rfl rfl) rfl (by decide) (x_binI H rfl rfl rfl (b_neq (b := true) (bne_t (by omega)))) ?_
          clear H a; intro a H
          refine e_op H rfl rfl (by decide) (x_pickT H rfl rfl rfl) ?_
          clear H a; intro a H
          refine e_op H rfl rfl (by decide) (x_move H rfl rfl) ?_
          clear H a; intro a H
          refine e_opg H (wanted_true H rfl rfl rfl rfl) rfl (by decide) (x_move H rfl rfl) ?_
          clear H a; intro a H
          refine e_opg H (wanted_true H rfl rfl rfl rfl) rfl (by decide) (x_binI H rfl rfl rfl (b_neq (b := true) (bne_t (by omega)))) ?_
          clear H a; intro a H
          refine e_op H rfl rfl (by decide) (x_pickT H rfl rfl rfl) ?_
          clear H a; intro a H
          refine e_op H rfl rfl (by decide) (x_move H rfl rfl) ?_
          clear H a; intro a H
          refine e_opg H (wanted_true H rfl rfl rfl rfl) rfl (by decide) (x_move H rfl rfl) ?_
          clear H a; intro a H
          refine e_opg H (wanted_true H rfl rfl rfl rfl) rfl (by decide) (x_binI H rfl rfl rfl (b_neq (b := false) (bne_f (by omega)))) ?_
          clear H a; intro a H
          refine e_op H rfl rfl (by decide) (x_pickT H rfl rfl rfl) ?_
          clear H a; intro a H
          refine e_op H rfl rfl (by decide) (x_move H rfl rfl) ?_
          clear H a; intro a H
          refine e_opg H (wanted_true H rfl rfl rfl rfl) rfl (by decide) (x_move H rfl rfl) ?_
          clear H a; intro a H
          refine e_opg H (wanted_true H rfl rfl rfl rfl) rfl (by decide) (x_binI H rfl rfl rfl (b_neq (b := true) (bne_t (by omega)))) ?_
          clear H a; intro a H
          refine e_opg H (wanted_true H rfl rfl rfl rfl) rfl (by decide) (x_move H rfl rfl) ?_
          clear H a; intro a H
          refine e_opg H (wanted_true H rfl rfl rfl rfl) rfl (by decide) (x_move H rfl rfl) ?_
          clear H a; intro a H
          refine e_opg H (wanted_true H rfl rfl rfl rfl) rfl (by decide) (x_binI H rfl rfl rfl (b_neq (b := false) (bne_f (by omega)))) ?_
          clear H a; intro a H
          refine e_opg H (wanted_true H rfl rfl rfl rfl) rfl (by decide) (x_pickT H rfl rfl rfl) ?_
          clear H a; intro a H
          refine e_opg H (wanted_true H rfl rfl rfl rfl) rfl (by decide) (x_move H rfl rfl) ?_
          clear H a; intro a H
          refine e_skip H (wanted_false H rfl rfl rfl rfl) rfl (by decide) ?_
          clear H a; intro a H
          refine e_skip H (wanted_false H rfl rfl rfl rfl) rfl (by decide) ?_
          clear H a; intro a H
          refine e_opg H (wanted_true H rfl rfl rfl rfl) rfl (by decide) (x_pickF H rfl rfl rfl) ?_
          clear H a; intro a H
          refine e_opg H (wanted_true H rfl rfl rfl rfl) rfl (by decide) (x_move H rfl rfl) ?_
          clear H a; intro a H
          refine e_skip H (wanted_false H rfl rfl rfl rfl) rfl (by decide) ?_
          clear H a; intro a H
          refine e_skip H (wanted_false H rfl rfl rfl rfl) rfl (by decide) ?_
          clear H a; intro a H
          refine e_opg H (wanted_true H rfl rfl rfl rfl) rfl (by decide) (x_pickF H rfl rfl rfl) ?_
          clear H a; intro a H
          refine e_op H rfl rfl (by decide) (x_pickF H rfl rfl rfl) ?_
          clear H a; intro a H
          refine e_nil (hR.out _ _ ?_)
          clear hR R
          exact ⟨rfl, H.sub ⟨rfl, rfl, rfl, rfl, rfl, trivial⟩, rfl⟩
        · skip
          clear i1 i2 hne
          refine e_region (fun R hR => ?_)
          refine e_op H rfl rfl (by decide) (x_move H rfl rfl) ?_
          clear H a; intro a H
          refine e_op H rfl rfl (by decide) (x_binI H rfl rfl rfl (b_neq (b := true) (bne_t (by omega)))) ?_
          clear H a; intro a H
          refine e_op H rfl rfl (by decide) (x_move H rfl rfl) ?_
          clear H a; intro a H
          refine e_opg H (wanted_true H rfl rfl rfl rfl) rfl (by decide) (x_move H rfl rfl) ?_
          clear H a; intro a H
          refine e_opg H (wanted_true H rfl rfl rfl rfl) rfl (by decide) (x_binI H rfl rfl rfl (b_neq (b := true) (bne_t (by omega)))) ?_
          clear H a; intro a H
          refine e_op H rfl rfl (by decide) (x_pickT H rfl rfl rfl) ?_
          clear H a; intro a H
          refine e_op H rfl rfl (by decide) (x_move H rfl rfl) ?_
          clear H a; intro a H
          refine e_opg H (wanted_true H rfl rfl rfl rfl) rfl (by decide) (x_move H rfl rfl) ?_
          clear H a; intro a H
          refine e_opg H (wanted_true H rfl rfl rfl rfl) rfl (by decide) (x_binI H rfl rfl rfl (b_neq (b := true) (bne_t (by omega)))) ?_
          clear H a; intro a H
          refine e_op H rfl rfl (by decide) (x_pickT H rfl rfl rfl) ?_
          clear H a; intro a H
          refine e_op H rfl rfl (by decide) (x_move H rfl rfl) ?_
          clear H a; intro a H
          refine e_opg H (wanted_true H rfl rfl rfl rfl) rfl (by decide) (x_move H rfl rfl) ?_
          clear H a; intro a H
          refine e_opg H (wanted_true H rfl rfl rfl rfl) rfl (by decide) (x_binI H rfl rfl rfl (b_neq (b := false) (bne_f (by omega)))) ?_
          clear H a; intro a H
          refine e_op H rfl rfl (by decide) (x_pickT H rfl rfl rfl) ?_
          clear H a; intro a H
          refine e_op H rfl rfl (by decide) (x_move H rfl rfl) ?_
          clear H a; intro a H
          refine e_opg H (wanted_true H rfl rfl rfl rfl) rfl (by decide) (x_move H rfl rfl) ?_
          clear H a; intro a H
          refine e_opg H (wanted_true H rfl rfl rfl rfl) rfl (by decide) (x_binI H rfl rfl rfl (b_neq (b := true) (bne_t (by omega)))) ?_
          clear H a; intro a H
          refine e_opg H (wanted_true H rfl rfl rfl rfl) rfl (by decide) (x_move H rfl rfl) ?_
          clear H a; intro a H
          refine e_opg H (wanted_true H rfl rfl rfl rfl) rfl (by decide) (x_move H rfl rfl) ?_
          clear H a; intro a H
          refine e_opg H (wanted_true H rfl rfl rfl rfl) rfl (by decide) (x_binI H rfl rfl rfl (b_neq (b := true) (bne_t (by omega)))) ?_
          clear H a; intro a H
          refine e_opg H (wanted_true H rfl rfl rfl rfl) rfl (by decide) (x_pickT H rfl rfl rfl) ?_
          clear H a; intro a H
          refine e_opg H (wanted_true H rfl rfl rfl rfl) rfl (by decide) (x_move H rfl rfl) ?_
          clear H a; intro a H
          refine e_opg H (wanted_true H rfl rfl rfl rfl) rfl (by decide) (x_move H rfl rfl) ?_
          clear H a; intro a H
          refine e_opg H (wanted_true H rfl rfl rfl rfl) rfl (by decide) (x_binI H rfl rfl rfl (b_neq (b := false) (bne_f (by omega)))) ?_
          clear H a; intro a H
          refine e_opg H (wanted_true H rfl rfl rfl rfl) rfl (by decide) (x_pickT H rfl rfl rfl) ?_
          clear H a; intro a H
          refine e_opg H (wanted_true H rfl rfl rfl rfl) rfl (by decide) (x_move H rfl rfl) ?_
          clear H a; intro a H
          refine e_skip H (wanted_false H rfl rfl rfl rfl) rfl (by decide) ?_
          clear H a; intro a H
          refine e_skip H (wanted_false H rfl rfl rfl rfl) rfl (by decide) ?_
          clear H a; intro a H
          refine e_opg H (wanted_true H rfl rfl rfl rfl) rfl (by decide) (x_pickF H rfl rfl rfl) ?_
          clear H a; intro a H
          refine e_op H rfl rfl (by decide) (x_pickF H rfl rfl rfl) ?_
          clear H a; intro a H
          refine e_nil (hR.out _ _ ?_)
          clear hR R
          exact ⟨rfl, H.sub ⟨rfl, rfl, rfl, rfl, rfl, trivial⟩, rfl⟩
        · skip
          clear i1 i2 hne
          refine e_region (fun R hR => ?_)
          refine e_op H rfl rfl (by decide) (x_move H rfl rfl) ?_
          clear H a; intro a H
          refine e_op H rfl rfl (by decide) (x_binI H rfl rfl rfl (b_neq (b := true) (bne_t (by omega)))) ?_
          clear H a; intro a H
          refine e_op H rfl rfl (by decide) (x_move H rfl rfl) ?_
          clear H a; intro a H
          refine e_opg H (wanted_true H rfl rfl rfl rfl) rfl (by decide) (x_move H rfl rfl) ?_
          clear H a; intro a H
          refine e_opg H (wanted_true H rfl rfl rfl rfl) rfl (by decide) (x_binI H rfl rfl rfl (b_neq (b := true) (bne_t (by omega)))) ?_
          clear H a; intro a H
          refine e_op H rfl rfl (by decide) (x_pickT H rfl rfl rfl) ?_
          clear H a; intro a H
          refine e_op H rfl rfl (by decide) (x_move H rfl rfl) ?_
          clear H a; intro a H
          refine e_opg H (wanted_true H rfl rfl rfl rfl) rfl (by decide) (x_move H rfl rfl) ?_
          clear H a; intro a H
          refine e_opg H (wanted_true H rfl rfl rfl rfl) rfl (by decide) (x_binI H rfl rfl rfl (b_neq (b := true) (bne_t (by omega)))) ?_
          clear H a; intro a H
          refine e_op H rfl rfl (by decide) (x_pickT H rfl rfl rfl) ?_
          clear H a; intro a H
          refine e_op H rfl rfl (by decide) (x_move H rfl rfl) ?_
          clear H a; intro a H
          refine e_opg H (wanted_true H rfl rfl rfl rfl) rfl (by decide) (x_move H rfl rfl) ?_
          clear H a; intro a H
          refine e_opg H (wanted_true H rfl rfl rfl rfl) rfl (by decide) (x_binI H rfl rfl rfl (b_neq (b := false) (bne_f (by omega)))) ?_
          clear H a; intro a H
          refine e_op H rfl rfl (by decide) (x_pickT H rfl rfl rfl) ?_
          clear H a; intro a H
          refine e_op H rfl rfl (by decide) (x_move H rfl rfl) ?_
          clear H a; intro a H
          refine e_opg H (wanted_true H rfl rfl rfl rfl) rfl (by decide) (x_move H rfl rfl) ?_
          clear H a; intro a H
          refine e_opg H (wanted_true H rfl rfl rfl rfl) rfl (by decide) (x_binI H rfl rfl rfl (b_neq (b := true) (bne_t (by omega)))) ?_
          clear H a; intro a H
          refine e_opg H (wanted_true H rfl rfl rfl rfl) rfl (by decide) (x_move H rfl rfl) ?_
          clear H a; intro a H
          refine e_opg H (wanted_true H rfl rfl rfl rfl) rfl (by decide) (x_move H rfl rfl) ?_
          clear H a; intro a H
          refine e_opg H (wanted_true H rfl rfl rfl rfl) rfl (by decide) (x_binI H rfl rfl rfl (b_neq (b := true) (bne_t (by omega)))) ?_
          clear H a; intro a H
          refine e_opg H (wanted_true H rfl rfl rfl rfl) rfl (by decide) (x_pickT H rfl rfl rfl) ?_
          clear H a; intro a H
          refine e_opg H (wanted_true H rfl rfl rfl rfl) rfl (by decide) (x_move H rfl rfl) ?_
          clear H a; intro a H
          refine e_opg H (wanted_true H rfl rfl rfl rfl) rfl (by decide) (x_move H rfl rfl) ?_
          clear H a; intro a H
          refine e_opg H (wanted_true H rfl rfl rfl rfl) rfl (by decide) (x_binI H rfl rfl rfl (b_neq (b := true) (bne_t (by omega)))) ?_
          clear H a; intro a H
          refine e_opg H (wanted_true H rfl rfl rfl rfl) rfl (by decide) (x_pickT H rfl rfl rfl) ?_
          clear H a; intro a H
          refine e_opg H (wanted_true H rfl rfl rfl rfl) rfl (by decide) (x_move H rfl rfl) ?_
          clear H a; intro a H
          refine e_opg H (wanted_true H rfl rfl rfl rfl) rfl (by decide) (x_move H rfl rfl) ?_
          clear H a; intro a H
          refine e_opg H (wanted_true H rfl rfl rfl rfl) rfl (by decide) (x_binI H rfl rfl rfl (b_neq (b := false) (bne_f (by omega)))) ?_
          clear H a; intro a H
          refine e_opg H (wanted_true H rfl rfl rfl rfl) rfl (by decide) (x_pickT H rfl rfl rfl) ?_
          clear H a; intro a H
          refine e_op H rfl rfl (by decide) (x_pickF H rfl rfl rfl) ?_
          clear H a; intro a H
          refine e_nil (hR.out _ _ ?_)
          clear hR R
          exact ⟨rfl, H.sub ⟨rfl, rfl, rfl, rfl, rfl, trivial⟩, rfl⟩
  · skip
    rcases (show (r1.in_ pl).1 = 0 ∨ ((r1.in_ pl).1 ≠ 0 ∧ ((⟨5, fb, noMarks⟩ : Snd).ack pl).1 = 0) ∨ ((r1.in_ pl).1 ≠ 0 ∧ ((⟨5, fb, noMarks⟩ : Snd).ack pl).1 ≠ 0) by omega) with q1 | ⟨q1, q2⟩ | ⟨q1, q2⟩
    · skip
      skip
      refine e_region (fun R hR => ?_)
      refine e_op H rfl rfl (by decide) (x_move H rfl rfl) ?_
      clear H a; intro a H
      refine e_op H rfl rfl (by decide) (x_binI H rfl rfl rfl (b_eql (b := true) (beq_t (by omega)))) ?_
      clear H a; intro a H
      refine e_op H rfl rfl (by decide) (x_move H rfl rfl) ?_
      clear H a; intro a H
      refine e_skip H (wanted_false H rfl rfl rfl rfl) rfl (by decide) ?_
      clear H a; intro a H
      refine e_skip H (wanted_false H rfl rfl rfl rfl) rfl (by decide) ?_
      clear H a; intro a H
      refine e_op H rfl rfl (by decide) (x_pickT H rfl rfl rfl) ?_
      clear H a; intro a H
      refine e_nil (hR.out _ _ ?_)
      clear hR R
      have hba : (decide ((r1.in_ pl).1 = 0 ∨ ((⟨5, fb, noMarks⟩ : Snd).ack pl).1 = 0)) = true := decide_eq_true (.inl q1)
      rw [hba]
      exact ⟨rfl, H.sub ⟨rfl, rfl, rfl, rfl, rfl, rfl, rfl, trivial⟩, rfl⟩
    · skip
      skip
      refine e_region (fun R hR => ?_)
      refine e_op H rfl rfl (by decide) (x_move H rfl rfl) ?_
      clear H a; intro a H
      refine e_op H rfl rfl (by decide) (x_binI H rfl rfl rfl (b_eql (b := false) (beq_f (by omega)))) ?_
      clear H a; intro a H
      refine e_op H rfl rfl (by decide) (x_move H rfl rfl) ?_
      clear H a; intro a H
      refine e_opg H (wanted_true H rfl rfl rfl rfl) rfl (by decide) (x_move H rfl rfl) ?_
      clear H a; intro a H
      refine e_opg H (wanted_true H rfl rfl rfl rfl) rfl (by decide) (x_binI H rfl rfl rfl (b_eql (b := true) (beq_t (by omega)))) ?_
      clear H a; intro a H
      refine e_op H rfl rfl (by decide) (x_pickF H rfl rfl rfl) ?_
      clear H a; intro a H
      refine e_nil (hR.out _ _ ?_)
      clear hR R
      have hba : (decide ((r1.in_ pl).1 = 0 ∨ ((⟨5, fb, noMarks⟩ : Snd).ack pl).1 = 0)) = true := decide_eq_true (.inr q2)
      rw [hba]
      exact ⟨rfl, H.sub ⟨rfl, rfl, rfl, rfl, rfl, rfl, rfl, trivial⟩, rfl⟩
    · skip
      skip
      refine e_region (fun R hR => ?_)
      refine e_op H rfl rfl (by decide) (x_move H rfl rfl) ?_
      clear H a; intro a H
      refine e_op H rfl rfl (by decide) (x_binI H rfl rfl rfl (b_eql (b := false) (beq_f (by omega)))) ?_
      clear H a; intro a H
      refine e_op H rfl rfl (by decide) (x_move H rfl rfl) ?_
      clear H a; intro a H
      refine e_opg H (wanted_true H rfl rfl rfl rfl) rfl (by decide) (x_move H rfl rfl) ?_
      clear H a; intro a H
      refine e_opg H (wanted_true H rfl rfl rfl rfl) rfl (by decide) (x_binI H rfl rfl rfl (b_eql (b := false) (beq_f (by omega)))) ?_
      clear H a; intro a H
      refine e_op H rfl rfl (by decide) (x_pickF H rfl rfl rfl) ?_
      clear H a; intro a H
      refine e_nil (hR.out _ _ ?_)
      clear hR R
      have hba : (decide ((r1.in_ pl).1 = 0 ∨ ((⟨5, fb, noMarks⟩ : Snd).ack pl).1 = 0)) = false := decide_eq_false (fun h => h.elim q1 q2)
      rw [hba]
      exact ⟨rfl, H.sub ⟨rfl, rfl, rfl, rfl, rfl, rfl, rfl, trivial⟩, rfl⟩
end Go.Proofs.Ytknllmcpogoeoaa
