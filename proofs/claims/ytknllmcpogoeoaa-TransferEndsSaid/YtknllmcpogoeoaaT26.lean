/- One move of a play, and TransferPlays, walked. -/
import Derived.Test.YtknllmcpogoeoaaT23
import Derived.Test.YtknllmcpogoeoaaT24
import Derived.Test.YtknllmcpogoeoaaT25
namespace Go.Proofs.Ytknllmcpogoeoaa
open Go.RowKit
set_option linter.unusedVariables false
set_option linter.unusedSimpArgs false
set_option maxRecDepth 100000
theorem do_any (wB : World) (gw gs gr id : Nat) (file : List UInt8) (V : Wv) (p : Wp) (kd at_ bz : Nat) (st : Bool) (w0 : World) (D : Wd w0 wB.heap.size gw gs gr V p) (KK : Wok p id file) (E0 : Ext wB w0) (hkd : kd ≤ 255) (hat : at_ ≤ 65535) (hbz : bz ≤ 4294967295) :
    Calls Try.prog 102 #[.pointer (some ⟨gw, 0, none⟩), .agg #[.int .u8 (kd : Int), .int .u16 (at_ : Int), .bool st, .int .u32 (bz : Int)]] w0 (DoPost wB gw gs gr id file) := by
  rcases (show kd % 10 < 3 ∨ (3 ≤ kd % 10 ∧ kd % 10 < 7) ∨ kd % 10 = 7 ∨ 8 ≤ kd % 10 by omega) with h | h | h | h
  · exact do_send wB gw gs gr id file V p kd at_ bz st w0 D KK E0 hkd hat hbz h
  · exact do_way wB gw gs gr id file V p kd at_ bz st w0 D KK E0 hkd hat hbz h
  · exact do_tell wB gw gs gr id file V p kd at_ bz st w0 D KK E0 hkd hat hbz h
  · exact do_back wB gw gs gr id file V p kd at_ bz st w0 D KK E0 hkd hat hbz h
theorem isAgg168_ (w : World) : (isAgg 168).run Try.prog w = .ok true w := by kernel_rfl
theorem size168_ (w : World) : (sizeOf 168).run Try.prog w = .ok 4 w := by kernel_rfl
/-- a move is read -/
theorem ld_move {w : World} {a : Option Addr} {n : Nat} {ms : List Mv} (h : Ms w a n ms) {k : Nat} {s : Mv} (hs : ms[k]? = some s) : ∃ b off, a = some ⟨b, off, none⟩ ∧ s.ok ∧ (Instr.loadAt 168 (.pointer (some ⟨b, off + k * 4, none⟩))).run Try.prog w = .ok (.agg #[.int .u8 (s.kind : Int), .int .u16 (s.at_ : Int), .bool s.stay, .int .u32 (s.bits : Int)]) w := by
  obtain ⟨ho, b, off, e, hc⟩ := h.cell k s hs
  exact ⟨b, off, e, ho, l_part (cs := s.cells) isAgg168_ size168_ (fun j v hv => hc j v hv)⟩
set_option maxHeartbeats 8000000 in
theorem transferPlays_any (x : Nat) (ad : Option Addr) (n c : Nat) (f : List UInt8) (t : Nat) (am : Option Addr) (nm cm : Nat) (ms : List Mv) (w0 : World) (hxx : x ≤ 4294967295) (hb : Bs w0 ad n f) (hz : ad = none → c = 0) (hn : n ≤ 140737488351232) (htt : t ≤ 255)
    (hms : Ms w0 am nm ms) (hnm : nm ≤ 140737488351232) :
    Calls Try.prog 30 #[.int .u32 (x : Int), .agg #[.slice ad n c, .int .u8 (t : Int)], .slice am nm cm] w0 fun e w' => e = .returned (.bool true) ∧ Ext w0 w' := by
  obtain ⟨fb, hfb⟩ : ∃ fb, fb = fileB f t := ⟨_, rfl⟩
  have hfl := fileB_len f t
  rw [← hfb] at hfl
  have hml := hms.leng
  obtain ⟨cnt, hcnt⟩ : ∃ c, c = min nm 80 := ⟨_, rfl⟩
  refine calls_has (args := [.int .u32 (x : Int), .agg #[.slice ad n c, .int .u8 (t : Int)], .slice am nm cm]) Try.func30 rfl Try.ntmps30 (Nat.le_of_ble_eq_true rfl) (fun a H => ?_)
  simp only [argl, Nat.reduceAdd] at H
  refine wp_seq_k (fun K1 hK1 => ?_)
  refine e_region (fun R hR => ?_)
  refine e_op H rfl rfl (by decide) (x_box H rfl rfl bx_new) ?_
  clear H a; intro a H
  have T3 := Blk.new w0 148 [.slice ad n c, .int .u8 (t : Int)]
  have E01 := (Ext.refl w0).al (.cells #[.slice ad n c, .int .u8 (t : Int)] 148)
  obtain ⟨g3, hg3⟩ : ∃ g, g = w0.heap.size := ⟨_, rfl⟩
  rw [← hg3] at H T3
  generalize w0.alloc (.cells #[.slice ad n c, .int .u8 (t : Int)] 148) = w1 at *
  refine e_op H rfl rfl (by decide) (x_assign H rfl rfl) ?_
  clear H a; intro a H
  refine e_nil (hR.out _ _ ?_)
  clear hR R
  refine hK1 _ _ ?_
  clear hK1 K1
  refine wp_seq_k (fun K2 hK2 => ?_)
  refine wp_seq_k (fun K3 hK3 => ?_)
  refine e_region (fun R hR => ?_)
  refine e_callq H rfl rfl (by decide) rfl rfl (Try.call51 _) (awake_any w1) ?_
  clear H a
  rintro e w2 ⟨rfl, E⟩
  refine ⟨_, rfl, fun a H => ?_⟩
  refine e_op H rfl rfl (by decide) (x_un H rfl rfl (u_not (c := false) (rfl))) ?_
  clear H a; intro a H
  refine e_nil (hR.out _ _ ?_)
  clear hR R
  refine hK3 _ _ ?_
  clear hK3 K3
  refine c_false H rfl ?_
  refine wp_skip ?_
  refine hK2 _ _ ?_
  clear hK2 K2
  refine wp_seq_k (fun K4 hK4 => ?_)
  refine e_region (fun R hR => ?_)
  refine e_op H rfl rfl (by decide) (x_move H rfl rfl) ?_
  clear H a; intro a H
  refine e_op H rfl rfl (by decide) (x_load H rfl rfl (ld_file (T3.ext E))) ?_
  clear H a; intro a H
  refine e_callq H rfl rfl (by decide) rfl rfl (Try.call98 _) (bytesG_any ad n c f t fb hfb w2 (E.bs (E01.bs hb)) hz hn htt) ?_
  clear H a
  rintro e w3 ⟨fa, fc, rfl, OF, E3⟩
  refine ⟨_, rfl, fun a H => ?_⟩
  replace OF := OF.mono E.sz
  replace E := E.tr E3
  refine e_callq H rfl rfl (by decide) rfl rfl (Try.call97 _) (begin_any w1.heap.size x fa fb.length fc fb w3 OF E.sz (by omega) (by omega)) ?_
  clear H a
  rintro e w4 ⟨gw, gs, gr, V0, rfl, D, h1, h2, h3, hvl, E4⟩
  refine ⟨_, rfl, fun a H => ?_⟩
  replace E := E.tr E4
  refine e_op H rfl rfl (by decide) (x_assign H rfl rfl) ?_
  clear H a; intro a H
  refine e_nil (hR.out _ _ ?_)
  clear hR R
  refine hK4 _ _ ?_
  clear hK4 K4
  refine wp_seq_k (fun K5 hK5 => ?_)
  refine wp_seq_k (fun K6 hK6 => ?_)
  refine e_region (fun R hR => ?_)
  refine e_op H rfl rfl (by decide) (x_move H rfl rfl) ?_
  clear H a; intro a H
  refine e_op H rfl rfl (by decide) (x_bin H rfl rfl rfl (by rw [eqGuard_at_pointer]; rfl) (b_pnil (c := false) Try.underlying149 rfl)) ?_
  clear H a; intro a H
  refine e_op H rfl rfl (by decide) (x_move H rfl rfl) ?_
  clear H a; intro a H
  refine e_opg H (wanted_true H rfl rfl rfl rfl) rfl (by decide) (x_move H rfl rfl) ?_
  clear H a; intro a H
  refine e_callqg H (wanted_true H rfl rfl rfl rfl) rfl (by decide) rfl rfl (Try.call101 _) (same_any w1.heap.size gw gs gr x fb V0 (p0 x fb) w4 D (p0_ok x fb (by omega) (by omega))) ?_
  clear H a
  rintro e w5 ⟨rfl, E5⟩
  replace D := D.ext E5
  replace E := E.tr E5
  refine ⟨_, rfl, fun a H => ?_⟩
  refine e_opg H (wanted_true H rfl rfl rfl rfl) rfl (by decide) (x_un H rfl rfl (u_not (c := false) (rfl))) ?_
  clear H a; intro a H
  refine e_op H rfl rfl (by decide) (x_pickF H rfl rfl rfl) ?_
  clear H a; intro a H
  refine e_nil (hR.out _ _ ?_)
  clear hR R
  refine hK6 _ _ ?_
  clear hK6 K6
  refine c_false H rfl ?_
  refine wp_skip ?_
  refine hK5 _ _ ?_
  clear hK5 K5
  refine wp_seq_k (fun K7 hK7 => ?_)
  refine wp_seq_k (fun K8 hK8 => ?_)
  refine e_region (fun R hR => ?_)
  refine e_op H rfl rfl (by decide) (x_assign H rfl rfl) ?_
  clear H a; intro a H
  refine e_nil (hR.out _ _ ?_)
  clear hR R
  refine hK8 _ _ ?_
  clear hK8 K8
  refine wp_block ?_
  refine wp_loop_ghost (fun n' a w => ∃ k V p, k ≤ cnt ∧ n' = cnt - k ∧ Has a 44 [(2, .slice am nm cm), (7, .pointer (some ⟨gw, 0, none⟩)), (8, .int .i64 (k : Int))] ∧ Wd w w1.heap.size gw gs gr V p ∧ Wok p x fb ∧ Ext w1 w) (cnt) ?_ ?_
  · skip
    exact ⟨0, V0, p0 x fb, by omega, rfl, H.sub ⟨rfl, rfl, rfl, trivial⟩, D, p0_ok x fb (by omega) (by omega), E⟩
  · skip
    clear H D E
    intro n a w hI
    obtain ⟨k, V, p, hk, rfl, H, D, K, E⟩ := hI
    rcases (show k < cnt ∨ (k = cnt ∧ k = nm) ∨ (k = cnt ∧ k < nm ∧ ¬ k < 80) by omega) with hlt | ⟨hke, hkn⟩ | ⟨hke, hkn, hk80⟩
    · skip
      obtain ⟨s, hs⟩ : ∃ s, ms[k]? = some s := ⟨ms[k], List.getElem?_eq_getElem (by omega)⟩
      obtain ⟨mb, mo, hae, hso, hld⟩ := ld_move ((hms.ext E01).ext E) hs
      refine wp_seq_k (fun K9 hK9 => ?_)
      refine wp_seq_k (fun K10 hK10 => ?_)
      refine e_region (fun R hR => ?_)
      refine e_op H rfl rfl (by decide) (x_move H rfl rfl) ?_
      clear H a; intro a H
      refine e_op H rfl rfl (by decide) (x_move H rfl rfl) ?_
      clear H a; intro a H
      refine e_op H rfl rfl (by decide) (x_builtin H rfl rfl (fun cs => len_sl Try.underlying165)) ?_
      clear H a; intro a H
      refine e_op H rfl rfl (by decide) (x_binI H rfl rfl rfl (b_lss (b := true) (dec_t (by omega)))) ?_
      clear H a; intro a H
      refine e_op H rfl rfl (by decide) (x_move H rfl rfl) ?_
      clear H a; intro a H
      refine e_opg H (wanted_true H rfl rfl rfl rfl) rfl (by decide) (x_move H rfl rfl) ?_
      clear H a; intro a H
      refine e_opg H (wanted_true H rfl rfl rfl rfl) rfl (by decide) (x_binI H rfl rfl rfl (b_lss (b := true) (dec_t (by omega)))) ?_
      clear H a; intro a H
      refine e_op H rfl rfl (by decide) (x_pickT H rfl rfl rfl) ?_
      clear H a; intro a H
      refine e_nil (hR.out _ _ ?_)
      clear hR R
      refine hK10 _ _ ?_
      clear hK10 K10
      refine c_true H rfl ?_
      refine wp_skip ?_
      refine hK9 _ _ ?_
      clear hK9 K9
      refine wp_seq_k (fun K11 hK11 => ?_)
      refine wp_block ?_
      refine wp_seq_k (fun K12 hK12 => ?_)
      refine e_region (fun R hR => ?_)
      rw [hae] at H
      refine e_op H rfl rfl (by decide) (x_move H rfl rfl) ?_
      clear H a; intro a H
      refine e_op H rfl rfl (by decide) (x_move H rfl rfl) ?_
      clear H a; intro a H
      refine e_op H rfl rfl (by decide) (x_move H rfl rfl) ?_
      clear H a; intro a H
      refine e_op H rfl rfl (by decide) (x_indexAddr H rfl rfl rfl (i_slN (m := k) Try.underlying165 size168_ rfl (by omega))) ?_
      clear H a; intro a H
      refine e_op H rfl rfl (by decide) (x_load H rfl rfl hld) ?_
      clear H a; intro a H
      refine e_callq H rfl rfl (by decide) rfl rfl (Try.call102 _) (do_any w1 gw gs gr x fb V p s.kind s.at_ s.bits s.stay w D K E hso.1 hso.2.1 hso.2.2) ?_
      clear H a
      rintro e wn ⟨rfl, V2, p2, D2, K2, En⟩
      refine ⟨_, rfl, fun a H => ?_⟩
      refine e_op H rfl rfl (by decide) (x_un H rfl rfl (u_not (c := false) (rfl))) ?_
      clear H a; intro a H
      refine e_op H rfl rfl (by decide) (x_move H rfl rfl) ?_
      clear H a; intro a H
      refine e_opg H (wanted_true H rfl rfl rfl rfl) rfl (by decide) (x_move H rfl rfl) ?_
      clear H a; intro a H
      refine e_callqg H (wanted_true H rfl rfl rfl rfl) rfl (by decide) rfl rfl (Try.call101 _) (same_any w1.heap.size gw gs gr x fb V2 p2 wn D2 K2) ?_
      clear H a
      rintro e wm ⟨rfl, Em⟩
      replace D2 := D2.ext Em
      replace En := En.tr Em
      refine ⟨_, rfl, fun a H => ?_⟩
      refine e_opg H (wanted_true H rfl rfl rfl rfl) rfl (by decide) (x_un H rfl rfl (u_not (c := false) (rfl))) ?_
      clear H a; intro a H
      refine e_op H rfl rfl (by decide) (x_pickF H rfl rfl rfl) ?_
      clear H a; intro a H
      refine e_nil (hR.out _ _ ?_)
      clear hR R
      refine hK12 _ _ ?_
      clear hK12 K12
      refine c_false H rfl ?_
      refine wp_skip ?_
      refine hK11 _ _ ?_
      clear hK11 K11
      refine e_region (fun R hR => ?_)
      refine e_op H rfl rfl (by decide) (x_move H rfl rfl) ?_
      clear H a; intro a H
      refine e_op H rfl rfl (by decide) (x_binI H rfl rfl rfl (b_add (z := ((k + 1 : Nat) : Int)) (by rw [IntKind.wrap_i64]; omega))) ?_
      clear H a; intro a H
      refine e_op H rfl rfl (by decide) (x_assign H rfl rfl) ?_
      clear H a; intro a H
      refine e_nil (hR.out _ _ ?_)
      clear hR R
      rw [← hae] at H
      exact ⟨cnt - (k + 1), by omega, k + 1, V2, p2, by omega, rfl, H.sub ⟨rfl, rfl, rfl, trivial⟩, D2, K2, En⟩
    · skip
      skip
      refine wp_seq_k (fun K13 hK13 => ?_)
      refine wp_seq_k (fun K14 hK14 => ?_)
      refine e_region (fun R hR => ?_)
      refine e_op H rfl rfl (by decide) (x_move H rfl rfl) ?_
      clear H a; intro a H
      refine e_op H rfl rfl (by decide) (x_move H rfl rfl) ?_
      clear H a; intro a H
      refine e_op H rfl rfl (by decide) (x_builtin H rfl rfl (fun cs => len_sl Try.underlying165)) ?_
      clear H a; intro a H
      refine e_op H rfl rfl (by decide) (x_binI H rfl rfl rfl (b_lss (b := false) (dec_f (by omega)))) ?_
      clear H a; intro a H
      refine e_op H rfl rfl (by decide) (x_move H rfl rfl) ?_
      clear H a; intro a H
      refine e_skip H (wanted_false H rfl rfl rfl rfl) rfl (by decide) ?_
      clear H a; intro a H
      refine e_skip H (wanted_false H rfl rfl rfl rfl) rfl (by decide) ?_
      clear H a; intro a H
      refine e_op H rfl rfl (by decide) (x_pickF H rfl rfl rfl) ?_
      clear H a; intro a H
      refine e_nil (hR.out _ _ ?_)
      clear hR R
      refine hK14 _ _ ?_
      clear hK14 K14
      refine c_false H rfl ?_
      refine wp_exit ?_
      refine t_exit ?_
      refine t_exit ?_
      refine b_hit ?_
      clear hK13 K13
      refine hK7 _ _ ?_
      clear hK7 K7
      refine wp_seq_k (fun K15 hK15 => ?_)
      refine e_region (fun R hR => ?_)
      refine e_op H rfl rfl (by decide) (x_assign H rfl rfl) ?_
      clear H a; intro a H
      refine e_nil (hR.out _ _ ?_)
      clear hR R
      refine hK15 _ _ ?_
      clear hK15 K15
      refine wp_ret ?_
      exact ret1 H rfl rfl ⟨rfl, E01.tr E⟩
    · skip
      skip
      refine wp_seq_k (fun K16 hK16 => ?_)
      refine wp_seq_k (fun K17 hK17 => ?_)
      refine e_region (fun R hR => ?_)
      refine e_op H rfl rfl (by decide) (x_move H rfl rfl) ?_
      clear H a; intro a H
      refine e_op H rfl rfl (by decide) (x_move H rfl rfl) ?_
      clear H a; intro a H
      refine e_op H rfl rfl (by decide) (x_builtin H rfl rfl (fun cs => len_sl Try.underlying165)) ?_
      clear H a; intro a H
      refine e_op H rfl rfl (by decide) (x_binI H rfl rfl rfl (b_lss (b := true) (dec_t (by omega)))) ?_
      clear H a; intro a H
      refine e_op H rfl rfl (by decide) (x_move H rfl rfl) ?_
      clear H a; intro a H
      refine e_opg H (wanted_true H rfl rfl rfl rfl) rfl (by decide) (x_move H rfl rfl) ?_
      clear H a; intro a H
      refine e_opg H (wanted_true H rfl rfl rfl rfl) rfl (by decide) (x_binI H rfl rfl rfl (b_lss (b := false) (dec_f (by omega)))) ?_
      clear H a; intro a H
      refine e_op H rfl rfl (by decide) (x_pickT H rfl rfl rfl) ?_
      clear H a; intro a H
      refine e_nil (hR.out _ _ ?_)
      clear hR R
      refine hK17 _ _ ?_
      clear hK17 K17
      refine c_false H rfl ?_
      refine wp_exit ?_
      refine t_exit ?_
      refine t_exit ?_
      refine b_hit ?_
      clear hK16 K16
      refine hK7 _ _ ?_
      clear hK7 K7
      refine wp_seq_k (fun K18 hK18 => ?_)
      refine e_region (fun R hR => ?_)
      refine e_op H rfl rfl (by decide) (x_assign H rfl rfl) ?_
      clear H a; intro a H
      refine e_nil (hR.out _ _ ?_)
      clear hR R
      refine hK18 _ _ ?_
      clear hK18 K18
      refine wp_ret ?_
      exact ret1 H rfl rfl ⟨rfl, E01.tr E⟩
end Go.Proofs.Ytknllmcpogoeoaa
