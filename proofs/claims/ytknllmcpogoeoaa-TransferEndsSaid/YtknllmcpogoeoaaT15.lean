/- A play's world: begin and same, walked. -/
import Derived.Test.YtknllmcpogoeoaaT14
namespace Go.Proofs.Ytknllmcpogoeoaa
open Go.RowKit
set_option linter.unusedVariables false
set_option linter.unusedSimpArgs false
set_option maxRecDepth 100000
theorem bld158 (gs gr : Nat) (v1 v2 : Value) (a : Option Addr) (n c : Nat) (w : World) : (Instr.build 158 #[(0, .pointer (some ⟨gs, 0, none⟩)), (1, .pointer (some ⟨gr, 0, none⟩)), (2, .agg #[v1, v2]), (3, .slice a n c)]).run Try.prog w =
    .ok (.agg (wCells gs gr ⟨.slice none 0 0, .slice none 0 0, v1, v2, .slice a n c, .slice none 0 0, .slice none 0 0, .slice none 0 0, .slice none 0 0, [], [], []⟩).toArray) w := by kernel_rfl
/-- a play's beginning -/
def p0 (id : Nat) (file : List UInt8) : Wp := ⟨⟨id, file, noMarks⟩, ⟨id, false, [], noMarks⟩, List.replicate (chunksT file.length) false, List.replicate (chunksT file.length) false, [], [], [], []⟩
theorem gb_no (k : Nat) : gb noMarks k = false := gb_rep _ _
theorem noMarks_take {n : Nat} (h : n ≤ 1024) : noMarks.take n = List.replicate n false := by
  unfold noMarks
  rw [List.take_replicate, Nat.min_eq_left h]
theorem p0_ok (id : Nat) (file : List UInt8) (h1 : id < 4294967296) (h2 : file.length ≤ 65535) : Wok (p0 id file) id file := by
  have hc := chunks_le h2
  exact ⟨rfl, rfl, List.length_replicate .., Rcv.of_new id file, (noMarks_take hc).symm, (noMarks_take hc).symm, rfl, (fun i hi => by cases hi), (by simp [p0]), rfl, (fun m hm => by cases hm), (by simp [p0]), (fun k hk => by rw [show (p0 id file).s.acked = noMarks from rfl, gb_no] at hk; cases hk), h1, h2⟩
theorem isAgg154_ (w : World) : (isAgg 154).run Try.prog w = .ok true w := by kernel_rfl
theorem size154_ (w : World) : (sizeOf 154).run Try.prog w = .ok 2 w := by kernel_rfl
/-- the link of a world is read -/
theorem ld_link {w : World} {gw gs gr : Nat} {V : Wv} (h : Blk w gw 158 (wCells gs gr V)) : (Instr.loadAt 154 (.pointer (some ⟨gw, 2, none⟩))).run Try.prog w = .ok (.agg #[V.vh, V.va]) w :=
  l_part (cs := [V.vh, V.va]) isAgg154_ size154_ (fun j v hv => by
    rw [h.cell]
    match j, hv with
    | 0, hv => exact hv
    | 1, hv => exact hv
    | j + 2, hv => simp at hv)
section
variable {p : Wp} {id : Nat} {file : List UInt8}
theorem Wok.hlen (h : Wok p id file) : p.has.length = chunksT file.length := by rw [h.has]; exact take_len h.rof.size (chunks_le h.fll)
theorem Wok.alen_ (h : Wok p id file) : p.ack.length = chunksT file.length := by rw [h.ack]; exact take_len h.alen (chunks_le h.fll)
theorem Wok.front_ (h : Wok p id file) : front (gb p.has) (chunksT file.length) = front (gb p.r.has) (chunksT file.length) := front_congr fun k hk => by rw [h.has, gb_take _ _ _ hk]
theorem Wok.unm_ (h : Wok p id file) : unm (gb p.ack) (chunksT file.length) = unm (gb p.s.acked) (chunksT file.length) := unm_congr fun k hk => by rw [h.ack, gb_take _ _ _ hk]
end
theorem begin_any (B id : Nat) (ad : Option Addr) (n c : Nat) (file : List UInt8) (w0 : World) (ho : Ow w0 B ad n c file) (hB : B ≤ w0.heap.size) (hn : n ≤ 65535) (hid : id ≤ 4294967295) :
    Calls Try.prog 97 #[.int .u32 (id : Int), .slice ad n c] w0 fun e w' => ∃ gw gs gr V, e = .returned (.pointer (some ⟨gw, 0, none⟩)) ∧ Wd w' B gw gs gr V (p0 id file) ∧ w0.heap.size ≤ gw ∧ w0.heap.size ≤ gs ∧ w0.heap.size ≤ gr ∧ V.vl = .slice ad n c ∧ Ext w0 w' := by
  have hl := ho.leng
  subst hl
  refine calls_has (args := [.int .u32 (id : Int), .slice ad file.length c]) Try.func97 rfl Try.ntmps97 (Nat.le_of_ble_eq_true rfl) (fun a H => ?_)
  simp only [argl, Nat.reduceAdd] at H
  refine wp_seq_k (fun K1 hK1 => ?_)
  refine e_region (fun R hR => ?_)
  refine e_op H rfl rfl (by decide) (x_assign H rfl rfl) ?_
  clear H a; intro a H
  refine e_nil (hR.out _ _ ?_)
  clear hR R
  refine hK1 _ _ ?_
  clear hK1 K1
  refine wp_seq_k (fun K2 hK2 => ?_)
  refine e_region (fun R hR => ?_)
  refine e_op H rfl rfl (by decide) (x_move H rfl rfl) ?_
  clear H a; intro a H
  refine e_op H rfl rfl (by decide) (x_move H rfl rfl) ?_
  clear H a; intro a H
  refine e_callq H rfl rfl (by decide) rfl rfl (Try.call99 _) (newSender_any id ad file.length c file w0 ho.bs (ow_cap ho) hn hid) ?_
  clear H a
  rintro e w1 ⟨g1, v1, rfl, S1, hg1, E1⟩
  refine ⟨_, rfl, fun a H => ?_⟩
  refine e_op H rfl rfl (by decide) (x_move H rfl rfl) ?_
  clear H a; intro a H
  refine e_op H rfl rfl (by decide) (x_extract H rfl rfl (v := .pointer (some ⟨g1, 0, none⟩)) rfl) ?_
  clear H a; intro a H
  refine e_op H rfl rfl (by decide) (x_extract H rfl rfl (v := .int .i64 0) rfl) ?_
  clear H a; intro a H
  refine e_op H rfl rfl (by decide) (x_assign H rfl rfl) ?_
  clear H a; intro a H
  refine e_op H rfl rfl (by decide) (x_assign H rfl rfl) ?_
  clear H a; intro a H
  refine e_nil (hR.out _ _ ?_)
  clear hR R
  refine hK2 _ _ ?_
  clear hK2 K2
  refine wp_seq_k (fun K3 hK3 => ?_)
  refine e_region (fun R hR => ?_)
  refine e_op H rfl rfl (by decide) (x_move H rfl rfl) ?_
  clear H a; intro a H
  refine e_callq H rfl rfl (by decide) rfl rfl (Try.call100 _) (newReceiver_any id w1 hid) ?_
  clear H a
  rintro e w2 ⟨g2, rfl, R2, hg2, E2⟩
  refine ⟨_, rfl, fun a H => ?_⟩
  refine e_op H rfl rfl (by decide) (x_assign H rfl rfl) ?_
  clear H a; intro a H
  refine e_nil (hR.out _ _ ?_)
  clear hR R
  refine hK3 _ _ ?_
  clear hK3 K3
  refine wp_seq_k (fun K4 hK4 => ?_)
  refine wp_seq_k (fun K5 hK5 => ?_)
  refine e_region (fun R hR => ?_)
  refine e_op H rfl rfl (by decide) (x_move H rfl rfl) ?_
  clear H a; intro a H
  refine e_op H rfl rfl (by decide) (x_binI H rfl rfl rfl (b_neq (b := false) (rfl))) ?_
  clear H a; intro a H
  refine e_op H rfl rfl (by decide) (x_move H rfl rfl) ?_
  clear H a; intro a H
  refine e_opg H (wanted_true H rfl rfl rfl rfl) rfl (by decide) (x_move H rfl rfl) ?_
  clear H a; intro a H
  refine e_opg H (wanted_true H rfl rfl rfl rfl) rfl (by decide) (x_bin H rfl rfl rfl (by rw [eqGuard_at_pointer]; rfl) (b_pnil (c := false) Try.underlying64 rfl)) ?_
  clear H a; intro a H
  refine e_op H rfl rfl (by decide) (x_pickF H rfl rfl rfl) ?_
  clear H a; intro a H
  refine e_op H rfl rfl (by decide) (x_move H rfl rfl) ?_
  clear H a; intro a H
  refine e_opg H (wanted_true H rfl rfl rfl rfl) rfl (by decide) (x_move H rfl rfl) ?_
  clear H a; intro a H
  refine e_opg H (wanted_true H rfl rfl rfl rfl) rfl (by decide) (x_bin H rfl rfl rfl (by rw [eqGuard_at_pointer]; rfl) (b_pnil (c := false) Try.underlying65 rfl)) ?_
  clear H a; intro a H
  refine e_op H rfl rfl (by decide) (x_pickF H rfl rfl rfl) ?_
  clear H a; intro a H
  refine e_nil (hR.out _ _ ?_)
  clear hR R
  refine hK5 _ _ ?_
  clear hK5 K5
  refine c_false H rfl ?_
  refine wp_skip ?_
  refine hK4 _ _ ?_
  clear hK4 K4
  refine wp_seq_k (fun K6 hK6 => ?_)
  refine e_region (fun R hR => ?_)
  refine e_op H rfl rfl (by decide) (x_move H rfl rfl) ?_
  clear H a; intro a H
  refine e_op H rfl rfl (by decide) (x_move H rfl rfl) ?_
  clear H a; intro a H
  refine e_op H rfl rfl (by decide) (x_move H rfl rfl) ?_
  clear H a; intro a H
  refine e_op H rfl rfl (by decide) (x_builtin H rfl rfl (fun cs => len_sl Try.underlying22)) ?_
  clear H a; intro a H
  refine e_callq H rfl rfl (by decide) rfl rfl (Try.call128 _) (newLink_any file.length w2 hn) ?_
  clear H a
  rintro e w3 ⟨g3, g4, rfl, RH, RA, hne, E3⟩
  refine ⟨_, rfl, fun a H => ?_⟩
  refine e_op H rfl rfl (by decide) (x_move H rfl rfl) ?_
  clear H a; intro a H
  refine e_op H rfl rfl (by decide) (x_build H rfl rfl (bld158 _ _ _ _ _ _ _ _)) ?_
  clear H a; intro a H
  refine e_op H rfl rfl (by decide) (x_box H rfl rfl bx_new) ?_
  clear H a; intro a H
  refine e_op H rfl rfl (by decide) (x_assign H rfl rfl) ?_
  clear H a; intro a H
  refine e_nil (hR.out _ _ ?_)
  clear hR R
  refine hK6 _ _ ?_
  clear hK6 K6
  refine wp_ret ?_
  have E12 := E1.tr E2
  have E13 := E12.tr E3
  have Ef := (Ext.refl w3).al (.cells (wCells g1 g2 ⟨.slice none 0 0, .slice none 0 0, .slice (some ⟨g3, 0, none⟩) (chunksT file.length) (chunksT file.length), .slice (some ⟨g4, 0, none⟩) (chunksT file.length) (chunksT file.length), .slice ad file.length c, .slice none 0 0, .slice none 0 0, .slice none 0 0, .slice none 0 0, [], [], []⟩).toArray 158)
  have hs1 := E1.sz
  have hs2 := E12.sz
  have hs3 := E13.sz
  refine ret1 H rfl rfl ⟨w3.heap.size, g1, g2, ⟨v1, .slice none 0 0, .slice (some ⟨g3, 0, none⟩) (chunksT file.length) (chunksT file.length), .slice (some ⟨g4, 0, none⟩) (chunksT file.length) (chunksT file.length), .slice ad file.length c, .slice none 0 0, .slice none 0 0, .slice none 0 0, .slice none 0 0, [], [], []⟩, rfl, ?_, by omega, by omega, by omega, rfl, E13.tr Ef⟩
  exact ⟨Blk.new w3 158 _, by omega, (((S1.ext E2).ext E3).ext Ef).mono hB, ((R2.ext E3).ext Ef).mono (by omega), (RH.ext Ef).mono (by omega), (RA.ext Ef).mono (by omega), ⟨ad, c, rfl, (ho.ext_ E13).ext_ Ef⟩, Rw.nil _ _ _, Els.nil _ _, Rw.nil _ _ _, Rw.nil _ _ _, Els.nil _ _, Rw.nil _ _ _, Bls.nil _ _, (fun k hk => by cases hk), (fun k hk => ⟨(fun h => by cases hk; cases h; exact hne rfl), (fun v hv => by cases hv)⟩), (fun k hk => ⟨(fun h => by cases hk; cases h; exact hne rfl), (fun v hv => by cases hv)⟩), (fun k hk => by cases hk)⟩
theorem Wd.fl2 {w : World} {B gw gs gr : Nat} {V : Wv} {p : Wp} (h : Wd w B gw gs gr V p) {la : Option Addr} {n lc : Nat} (hv : V.vl = .slice la n lc) : Ow w B la p.s.file.length lc p.s.file := by
  obtain ⟨a, c, h1, h2⟩ := h.fl
  rw [hv] at h1
  simp only [Value.slice.injEq] at h1
  obtain ⟨rfl, _, rfl⟩ := h1
  exact h2
theorem same_any (B gw gs gr id : Nat) (file : List UInt8) (V : Wv) (p : Wp) (w0 : World) (D : Wd w0 B gw gs gr V p) (K : Wok p id file) : Calls Try.prog 101 #[.pointer (some ⟨gw, 0, none⟩)] w0 fun e w' => e = .returned (.bool true) ∧ Ext w0 w' := by
  obtain ⟨la, lc, hvl, hlo⟩ := D.fl
  have hlc := ow_le hlo
  have hsf := K.sfile
  have hfl := K.fll
  have hc1 := chunks_le hfl
  have hhl := K.hlen
  have hal := K.alen_
  have hf0 := (front_spec (gb p.r.has) (chunksT file.length)).1
  have hcm : decide (front (gb p.has) p.has.length = p.has.length) = p.r.done := by rw [hhl, K.front_, K.rof.done_]
  have hpx : p.r.prefix_ = file.take (min (front (gb p.has) p.has.length * 64) p.s.file.length) := by rw [hhl, K.front_, K.rof.prefix_, hsf]
  have hpre : p.s.file.take (min (front (gb p.has) p.has.length * 64) p.s.file.length) = file.take (min (front (gb p.has) p.has.length * 64) p.s.file.length) := by rw [hsf]
  have hpl : p.r.prefix_.length ≤ 65535 := by rw [hpx, List.length_take]; omega
  have hul : (unm (gb p.ack) p.ack.length) = (unm (gb p.s.acked) (chunksT p.s.file.length)) := by rw [hal, K.unm_, hsf]
  cases hdn : p.r.done with
  | true =>
    have hfd : (if p.r.done then p.r.data else []) = file := by rw [if_pos hdn]; exact K.rof.file_ hdn
    rw [hdn] at hcm
    refine calls_has (args := [.pointer (some ⟨gw, 0, none⟩)]) Try.func101 rfl Try.ntmps101 (Nat.le_of_ble_eq_true rfl) (fun a H => ?_)
    simp only [argl, Nat.reduceAdd] at H
    refine wp_seq_k (fun K1 hK1 => ?_)
    refine e_region (fun R hR => ?_)
    refine e_op H rfl rfl (by decide) (x_assign H rfl rfl) ?_
    clear H a; intro a H
    refine e_nil (hR.out _ _ ?_)
    clear hR R
    refine hK1 _ _ ?_
    clear hK1 K1
    refine wp_seq_k (fun K2 hK2 => ?_)
    refine e_region (fun R hR => ?_)
    refine e_op H rfl rfl (by decide) (x_move H rfl rfl) ?_
    clear H a; intro a H
    refine e_op H rfl rfl (by decide) (x_nilCheck H rfl rfl) ?_
    clear H a; intro a H
    refine e_op H rfl rfl (by decide) (x_fieldAddr H rfl rfl (fa158_1 _ _)) ?_
    clear H a; intro a H
    refine e_op H rfl rfl (by decide) (x_load H rfl rfl (l_cell Try.isAgg65 (D.blk.at_ (i := 1) rfl))) ?_
    clear H a; intro a H
    refine e_callq H rfl rfl (by decide) rfl rfl (Try.call50 _) (file_rcv B gr V.vr p.r w0 D.rv) ?_
    clear H a
    rintro e w1 ⟨fa, fc, rfl, OF, E1⟩
    refine ⟨_, rfl, fun a H => ?_⟩
    have D1 := D.ext E1
    rw [hfd, hdn] at H
    rw [hfd] at OF
    refine e_op H rfl rfl (by decide) (x_move H rfl rfl) ?_
    clear H a; intro a H
    refine e_op H rfl rfl (by decide) (x_extract H rfl rfl (v := .slice fa file.length fc) rfl) ?_
    clear H a; intro a H
    refine e_op H rfl rfl (by decide) (x_extract H rfl rfl (v := .bool true) rfl) ?_
    clear H a; intro a H
    refine e_op H rfl rfl (by decide) (x_assign H rfl rfl) ?_
    clear H a; intro a H
    refine e_op H rfl rfl (by decide) (x_assign H rfl rfl) ?_
    clear H a; intro a H
    refine e_nil (hR.out _ _ ?_)
    clear hR R
    refine hK2 _ _ ?_
    clear hK2 K2
    refine wp_seq_k (fun K3 hK3 => ?_)
    obtain ⟨wd, hwd⟩ : ∃ wx, wx = w1.drew := ⟨_, rfl⟩
    have Ewd : Ext w1 wd := by rw [hwd]; exact (Ext.refl _).dr
    have Dd := D1.ext Ewd
    have FSq := Ext.refl wd
    refine g_start (fun w' => Ext wd w') (by kernel_rfl) (fun R hR => ?_)
    rw [← hwd]
    refine g_take 0 H rfl (wanted_none rfl) rfl (by decide) (by kernel_rfl) (by kernel_rfl) (by kernel_rfl) FSq (fun w' hSw => (x_move H rfl rfl)) ?_
    clear H a; intro a H
    refine g_take 1 H rfl (wanted_none rfl) rfl (by decide) (by kernel_rfl) (by kernel_rfl) (by kernel_rfl) FSq (fun w' hSw => (x_nilCheck H rfl rfl)) ?_
    clear H a; intro a H
    refine g_take 2 H rfl (wanted_none rfl) rfl (by decide) (by kernel_rfl) (by kernel_rfl) (by kernel_rfl) FSq (fun w' hSw => (x_fieldAddr H rfl rfl (fa158_2 _ _))) ?_
    clear H a; intro a H
    refine g_take 3 H rfl (wanted_none rfl) rfl (by decide) (by kernel_rfl) (by kernel_rfl) (by kernel_rfl) FSq (fun w' hSw => (x_load H rfl rfl (ld_link (Dd.ext hSw).blk))) ?_
    clear H a; intro a H
    refine g_take 4 H rfl (wanted_none rfl) rfl (by decide) (by kernel_rfl) (by kernel_rfl) (by kernel_rfl) FSq (fun w' hSw => (x_move H rfl rfl)) ?_
    clear H a; intro a H
    refine g_take 5 H rfl (wanted_none rfl) rfl (by decide) (by kernel_rfl) (by kernel_rfl) (by kernel_rfl) FSq (fun w' hSw => (x_nilCheck H rfl rfl)) ?_
    clear H a; intro a H
    refine g_take 6 H rfl (wanted_none rfl) rfl (by decide) (by kernel_rfl) (by kernel_rfl) (by kernel_rfl) FSq (fun w' hSw => (x_fieldAddr H rfl rfl (fa158_3 _ _))) ?_
    clear H a; intro a H
    refine g_take 7 H rfl (wanted_none rfl) rfl (by decide) (by kernel_rfl) (by kernel_rfl) (by kernel_rfl) FSq (fun w' hSw => (x_load H rfl rfl (l_cell (v := .slice la p.s.file.length lc) Try.isAgg22 ((Dd.ext hSw).blk.at_ (i := 4) (by rw [← hvl]; rfl))))) ?_
    clear H a; intro a H
    refine g_take 8 H rfl (wanted_none rfl) rfl (by decide) (by kernel_rfl) (by kernel_rfl) (by kernel_rfl) FSq (fun w' hSw => (x_builtin H rfl rfl (fun cs => len_sl Try.underlying22))) ?_
    clear H a; intro a H
    refine g_call 9 H rfl (by kernel_rfl) (wanted_none rfl) rfl (by decide) rfl rfl (Try.call129 _) (prefixL_any B p.has p.ack V.vh V.va p.s.file.length wd Dd.hh Dd.ha (by omega)) ?_
    clear H a
    rintro e w2 ⟨rfl, E2⟩
    refine ⟨_, rfl, E2, fun a H => ?_⟩
    have D2 := Dd.ext E2
    refine g_take 10 H rfl (wanted_none rfl) rfl (by decide) (by kernel_rfl) (by kernel_rfl) (by kernel_rfl) E2 (fun w' hSw => (x_assign H rfl rfl)) ?_
    clear H a; intro a H
    refine g_done (by kernel_rfl) (hR.out _ _ ?_)
    clear hR R
    refine hK3 _ _ ?_
    clear hK3 K3
    refine wp_seq_k (fun K4 hK4 => ?_)
    refine wp_seq_k (fun K5 hK5 => ?_)
    obtain ⟨we, hwe⟩ : ∃ wx, wx = w2.drew := ⟨_, rfl⟩
    have Ewe : Ext w2 we := by rw [hwe]; exact (Ext.refl _).dr
    have De := D2.ext Ewe
    have FSq := Ext.refl we
    refine g_start (fun w' => Ext we w') (by kernel_rfl) (fun R hR => ?_)
    rw [← hwe]
    refine g_take 0 H rfl (wanted_none rfl) rfl (by decide) (by kernel_rfl) (by kernel_rfl) (by kernel_rfl) FSq (fun w' hSw => (x_move H rfl rfl)) ?_
    clear H a; intro a H
    refine g_take 1 H rfl (wanted_none rfl) rfl (by decide) (by kernel_rfl) (by kernel_rfl) (by kernel_rfl) FSq (fun w' hSw => (x_move H rfl rfl)) ?_
    clear H a; intro a H
    refine g_take 2 H rfl (wanted_none rfl) rfl (by decide) (by kernel_rfl) (by kernel_rfl) (by kernel_rfl) FSq (fun w' hSw => (x_nilCheck H rfl rfl)) ?_
    clear H a; intro a H
    refine g_take 3 H rfl (wanted_none rfl) rfl (by decide) (by kernel_rfl) (by kernel_rfl) (by kernel_rfl) FSq (fun w' hSw => (x_fieldAddr H rfl rfl (fa158_2 _ _))) ?_
    clear H a; intro a H
    refine g_take 4 H rfl (wanted_none rfl) rfl (by decide) (by kernel_rfl) (by kernel_rfl) (by kernel_rfl) FSq (fun w' hSw => (x_load H rfl rfl (ld_link (De.ext hSw).blk))) ?_
    clear H a; intro a H
    refine g_call 5 H rfl (by kernel_rfl) (wanted_none rfl) rfl (by decide) rfl rfl (Try.call130 _) (completeL_any B p.has p.ack V.vh V.va we De.hh De.ha (by omega)) ?_
    clear H a
    rintro e wx ⟨rfl, Ex⟩
    refine ⟨_, rfl, Ex, fun a H => ?_⟩
    rw [hcm] at H
    refine g_take 6 H rfl (wanted_none rfl) rfl (by decide) (by kernel_rfl) (by kernel_rfl) (by kernel_rfl) Ex (fun w' hSw => (x_bin H rfl rfl rfl (by rw [eqGuard_at_bool]; rfl) (b_neqB (c := false) Try.underlying4 (by simp)))) ?_
    clear H a; intro a H
    refine g_take 7 H rfl (wanted_none rfl) rfl (by decide) (by kernel_rfl) (by kernel_rfl) (by kernel_rfl) Ex (fun w' hSw => (x_move H rfl rfl)) ?_
    clear H a; intro a H
    refine g_take 8 H rfl (wanted_true H rfl rfl rfl rfl) rfl (by decide) (by kernel_rfl) (by kernel_rfl) (by kernel_rfl) Ex (fun w' hSw => (x_move H rfl rfl)) ?_
    clear H a; intro a H
    refine g_take 9 H rfl (wanted_true H rfl rfl rfl rfl) rfl (by decide) (by kernel_rfl) (by kernel_rfl) (by kernel_rfl) Ex (fun w' hSw => (x_move H rfl rfl)) ?_
    clear H a; intro a H
    refine g_take 10 H rfl (wanted_true H rfl rfl rfl rfl) rfl (by decide) (by kernel_rfl) (by kernel_rfl) (by kernel_rfl) Ex (fun w' hSw => (x_move H rfl rfl)) ?_
    clear H a; intro a H
    refine g_take 11 H rfl (wanted_true H rfl rfl rfl rfl) rfl (by decide) (by kernel_rfl) (by kernel_rfl) (by kernel_rfl) Ex (fun w' hSw => (x_move H rfl rfl)) ?_
    clear H a; intro a H
    refine g_take 12 H rfl (wanted_true H rfl rfl rfl rfl) rfl (by decide) (by kernel_rfl) (by kernel_rfl) (by kernel_rfl) Ex (fun w' hSw => (x_nilCheck H rfl rfl)) ?_
    clear H a; intro a H
    refine g_take 13 H rfl (wanted_true H rfl rfl rfl rfl) rfl (by decide) (by kernel_rfl) (by kernel_rfl) (by kernel_rfl) Ex (fun w' hSw => (x_fieldAddr H rfl rfl (fa158_3 _ _))) ?_
    clear H a; intro a H
    refine g_take 14 H rfl (wanted_true H rfl rfl rfl rfl) rfl (by decide) (by kernel_rfl) (by kernel_rfl) (by kernel_rfl) Ex (fun w' hSw => (x_load H rfl rfl (l_cell (v := .slice la p.s.file.length lc) Try.isAgg22 ((De.ext hSw).blk.at_ (i := 4) (by rw [← hvl]; rfl))))) ?_
    clear H a; intro a H
    refine g_call 15 H rfl (by kernel_rfl) (wanted_true H rfl rfl rfl rfl) rfl (by decide) rfl rfl (Try.call45 _) (same1_any fa file.length fc la p.s.file.length lc file p.s.file wx ((OF.ext_ Ewd).ext_ (E2.tr (Ewe.tr Ex))).bs (((De.ext Ex).fl2 hvl)).bs (by omega)) ?_
    clear H a
    rintro e wy ⟨rfl, Ey⟩
    refine ⟨_, rfl, Ex.tr Ey, fun a H => ?_⟩
    have hde : decide (file = p.s.file) = true := decide_eq_true hsf.symm
    rw [hde] at H
    refine g_take 16 H rfl (wanted_true H rfl rfl rfl rfl) rfl (by decide) (by kernel_rfl) (by kernel_rfl) (by kernel_rfl) (Ex.tr Ey) (fun w' hSw => (x_un H rfl rfl (u_not (c := false) (rfl)))) ?_
    clear H a; intro a H
    refine g_take 17 H rfl (wanted_true H rfl rfl rfl rfl) rfl (by decide) (by kernel_rfl) (by kernel_rfl) (by kernel_rfl) (Ex.tr Ey) (fun w' hSw => (x_pickT H rfl rfl rfl)) ?_
    clear H a; intro a H
    refine g_take 18 H rfl (wanted_none rfl) rfl (by decide) (by kernel_rfl) (by kernel_rfl) (by kernel_rfl) (Ex.tr Ey) (fun w' hSw => (x_pickF H rfl rfl rfl)) ?_
    clear H a; intro a H
    refine g_take 19 H rfl (wanted_none rfl) rfl (by decide) (by kernel_rfl) (by kernel_rfl) (by kernel_rfl) (Ex.tr Ey) (fun w' hSw => (x_move H rfl rfl)) ?_
    clear H a; intro a H
    refine g_take 20 H rfl (wanted_true H rfl rfl rfl rfl) rfl (by decide) (by kernel_rfl) (by kernel_rfl) (by kernel_rfl) (Ex.tr Ey) (fun w' hSw => (x_move H rfl rfl)) ?_
    clear H a; intro a H
    refine g_take 21 H rfl (wanted_true H rfl rfl rfl rfl) rfl (by decide) (by kernel_rfl) (by kernel_rfl) (by kernel_rfl) (Ex.tr Ey) (fun w' hSw => (x_un H rfl rfl (u_not (c := false) (rfl)))) ?_
    clear H a; intro a H
    refine g_take 22 H rfl (wanted_true H rfl rfl rfl rfl) rfl (by decide) (by kernel_rfl) (by kernel_rfl) (by kernel_rfl) (Ex.tr Ey) (fun w' hSw => (x_move H rfl rfl)) ?_
    clear H a; intro a H
    refine g_skip 23 H rfl (wanted_false H rfl rfl rfl rfl) rfl (by decide) (by kernel_rfl) (by kernel_rfl) (by kernel_rfl) (Ex.tr Ey) ?_
    clear H a; intro a H
    refine g_skip 24 H rfl (wanted_false H rfl rfl rfl rfl) rfl (by decide) (by kernel_rfl) (by kernel_rfl) (by kernel_rfl) (Ex.tr Ey) ?_
    clear H a; intro a H
    refine g_skip 25 H rfl (wanted_false H rfl rfl rfl rfl) rfl (by decide) (by kernel_rfl) (by kernel_rfl) (by kernel_rfl) (Ex.tr Ey) ?_
    clear H a; intro a H
    refine g_take 26 H rfl (wanted_true H rfl rfl rfl rfl) rfl (by decide) (by kernel_rfl) (by kernel_rfl) (by kernel_rfl) (Ex.tr Ey) (fun w' hSw => (x_pickF H rfl rfl rfl)) ?_
    clear H a; intro a H
    refine g_take 27 H rfl (wanted_none rfl) rfl (by decide) (by kernel_rfl) (by kernel_rfl) (by kernel_rfl) (Ex.tr Ey) (fun w' hSw => (x_pickF H rfl rfl rfl)) ?_
    clear H a; intro a H
    refine g_take 28 H rfl (wanted_none rfl) rfl (by decide) (by kernel_rfl) (by kernel_rfl) (by kernel_rfl) (Ex.tr Ey) (fun w' hSw => (x_move H rfl rfl)) ?_
    clear H a; intro a H
    refine g_take 29 H rfl (wanted_true H rfl rfl rfl rfl) rfl (by decide) (by kernel_rfl) (by kernel_rfl) (by kernel_rfl) (Ex.tr Ey) (fun w' hSw => (x_move H rfl rfl)) ?_
    clear H a; intro a H
    refine g_take 30 H rfl (wanted_true H rfl rfl rfl rfl) rfl (by decide) (by kernel_rfl) (by kernel_rfl) (by kernel_rfl) (Ex.tr Ey) (fun w' hSw => (x_nilCheck H rfl rfl)) ?_
    clear H a; intro a H
    refine g_take 31 H rfl (wanted_true H rfl rfl rfl rfl) rfl (by decide) (by kernel_rfl) (by kernel_rfl) (by kernel_rfl) (Ex.tr Ey) (fun w' hSw => (x_fieldAddr H rfl rfl (fa158_1 _ _))) ?_
    clear H a; intro a H
    refine g_take 32 H rfl (wanted_true H rfl rfl rfl rfl) rfl (by decide) (by kernel_rfl) (by kernel_rfl) (by kernel_rfl) (Ex.tr Ey) (fun w' hSw => (x_load H rfl rfl (l_cell Try.isAgg65 ((De.ext hSw).blk.at_ (i := 1) rfl)))) ?_
    clear H a; intro a H
    refine g_take 34 H rfl (wanted_true H rfl rfl rfl rfl) rfl (by decide) (by kernel_rfl) (by kernel_rfl) (by kernel_rfl) (Ex.tr Ey) (fun w' hSw => (x_move H rfl rfl)) ?_
    clear H a; intro a H
    refine g_take 35 H rfl (wanted_true H rfl rfl rfl rfl) rfl (by decide) (by kernel_rfl) (by kernel_rfl) (by kernel_rfl) (Ex.tr Ey) (fun w' hSw => (x_nilCheck H rfl rfl)) ?_
    clear H a; intro a H
    refine g_take 36 H rfl (wanted_true H rfl rfl rfl rfl) rfl (by decide) (by kernel_rfl) (by kernel_rfl) (by kernel_rfl) (Ex.tr Ey) (fun w' hSw => (x_fieldAddr H rfl rfl (fa158_3 _ _))) ?_
    clear H a; intro a H
    refine g_take 37 H rfl (wanted_true H rfl rfl rfl rfl) rfl (by decide) (by kernel_rfl) (by kernel_rfl) (by kernel_rfl) (Ex.tr Ey) (fun w' hSw => (x_load H rfl rfl (l_cell (v := .slice la p.s.file.length lc) Try.isAgg22 ((De.ext hSw).blk.at_ (i := 4) (by rw [← hvl]; rfl))))) ?_
    clear H a; intro a H
    refine g_take 38 H rfl (wanted_true H rfl rfl rfl rfl) rfl (by decide) (by kernel_rfl) (by kernel_rfl) (by kernel_rfl) (Ex.tr Ey) (fun w' hSw => (x_move H rfl rfl)) ?_
    clear H a; intro a H
    refine g_take 39 H rfl (wanted_true H rfl rfl rfl rfl) rfl (by decide) (by kernel_rfl) (by kernel_rfl) (by kernel_rfl) (Ex.tr Ey) (fun w' hSw => (x_slice H rfl rfl rfl rfl (sl_hi (hi := (min (front (gb p.has) p.has.length * 64) p.s.file.length)) Try.underlying22 Try.sizeOf5 rfl (by omega)))) ?_
    clear H a; intro a H
    refine g_call 33 H rfl (by kernel_rfl) (wanted_true H rfl rfl rfl rfl) rfl (by decide) rfl rfl (Try.call58 _) (prefix_any B gr V.vr p.r wy (De.ext (Ex.tr Ey)).rv) ?_
    clear H a
    rintro e wz ⟨pa, pc, rfl, OP, Ez⟩
    refine ⟨_, rfl, (Ex.tr Ey).tr Ez, fun a H => ?_⟩
    refine g_call 40 H rfl (by kernel_rfl) (wanted_true H rfl rfl rfl rfl) rfl (by decide) rfl rfl (Try.call45 _) (same1_any pa p.r.prefix_.length pc la (min (front (gb p.has) p.has.length * 64) p.s.file.length) lc p.r.prefix_ (file.take (min (front (gb p.has) p.has.length * 64) p.s.file.length)) wz OP.bs (hpre ▸ bs_hi ((De.ext ((Ex.tr Ey).tr Ez)).fl2 hvl).bs (min (front (gb p.has) p.has.length * 64) p.s.file.length) (by omega)) (by omega)) ?_
    clear H a
    rintro e wq ⟨rfl, Eq⟩
    refine ⟨_, rfl, (Ex.tr Ey).tr (Ez.tr Eq), fun a H => ?_⟩
    rw [hpx, decide_eq_true rfl] at H
    refine g_take 41 H rfl (wanted_true H rfl rfl rfl rfl) rfl (by decide) (by kernel_rfl) (by kernel_rfl) (by kernel_rfl) ((Ex.tr Ey).tr (Ez.tr Eq)) (fun w' hSw => (x_un H rfl rfl (u_not (c := false) (rfl)))) ?_
    clear H a; intro a H
    refine g_take 42 H rfl (wanted_none rfl) rfl (by decide) (by kernel_rfl) (by kernel_rfl) (by kernel_rfl) ((Ex.tr Ey).tr (Ez.tr Eq)) (fun w' hSw => (x_pickF H rfl rfl rfl)) ?_
    clear H a; intro a H
    refine g_done (by kernel_rfl) (hR.out _ _ ?_)
    clear hR R
    refine hK5 _ _ ?_
    clear hK5 K5
    refine c_false H rfl ?_
    refine wp_skip ?_
    refine hK4 _ _ ?_
    clear hK4 K4
    refine wp_seq_k (fun K6 hK6 => ?_)
    have Db := De.ext ((Ex.tr Ey).tr (Ez.tr Eq))
    obtain ⟨wb, hwb⟩ : ∃ x, x = wq := ⟨_, rfl⟩
    have Eb : Ext w0 wb := by rw [hwb]; exact E1.tr (Ewd.tr (E2.tr (Ewe.tr ((Ex.tr Ey).tr (Ez.tr Eq)))))
    rw [← hwb] at Db ⊢
    clear hwb
    obtain ⟨wf, hwf⟩ : ∃ wx, wx = wb.drew := ⟨_, rfl⟩
    have Ewf : Ext wb wf := by rw [hwf]; exact (Ext.refl _).dr
    have Df := Db.ext Ewf
    have GS := Ext.refl wf
    refine g_start (fun w' => Ext wf w') (by kernel_rfl) (fun R hR => ?_)
    rw [← hwf]
    refine g_take 0 H rfl (wanted_none rfl) rfl (by decide) (by kernel_rfl) (by kernel_rfl) (by kernel_rfl) GS (fun w' hSw => (x_move H rfl rfl)) ?_
    clear H a; intro a H
    refine g_take 1 H rfl (wanted_none rfl) rfl (by decide) (by kernel_rfl) (by kernel_rfl) (by kernel_rfl) GS (fun w' hSw => (x_nilCheck H rfl rfl)) ?_
    clear H a; intro a H
    refine g_take 2 H rfl (wanted_none rfl) rfl (by decide) (by kernel_rfl) (by kernel_rfl) (by kernel_rfl) GS (fun w' hSw => (x_fieldAddr H rfl rfl (fa158_0 _ _))) ?_
    clear H a; intro a H
    refine g_take 3 H rfl (wanted_none rfl) rfl (by decide) (by kernel_rfl) (by kernel_rfl) (by kernel_rfl) GS (fun w' hSw => (x_load H rfl rfl (l_cell Try.isAgg64 ((Df.ext hSw).blk.at_ (i := 0) rfl)))) ?_
    clear H a; intro a H
    refine g_take 5 H rfl (wanted_none rfl) rfl (by decide) (by kernel_rfl) (by kernel_rfl) (by kernel_rfl) GS (fun w' hSw => (x_move H rfl rfl)) ?_
    clear H a; intro a H
    refine g_take 6 H rfl (wanted_none rfl) rfl (by decide) (by kernel_rfl) (by kernel_rfl) (by kernel_rfl) GS (fun w' hSw => (x_nilCheck H rfl rfl)) ?_
    clear H a; intro a H
    refine g_take 7 H rfl (wanted_none rfl) rfl (by decide) (by kernel_rfl) (by kernel_rfl) (by kernel_rfl) GS (fun w' hSw => (x_fieldAddr H rfl rfl (fa158_2 _ _))) ?_
    clear H a; intro a H
    refine g_take 8 H rfl (wanted_none rfl) rfl (by decide) (by kernel_rfl) (by kernel_rfl) (by kernel_rfl) GS (fun w' hSw => (x_load H rfl rfl (ld_link (Df.ext hSw).blk))) ?_
    clear H a; intro a H
    refine g_call 4 H rfl (by kernel_rfl) (wanted_none rfl) rfl (by decide) rfl rfl (Try.call55 _) (left_any B gs V.vs p.s wf Df.sn) ?_
    clear H a
    rintro e wy2 ⟨rfl, hwy⟩
    rw [hwy]
    refine ⟨_, rfl, GS, fun a H => ?_⟩
    refine g_call 9 H rfl (by kernel_rfl) (wanted_none rfl) rfl (by decide) rfl rfl (Try.call131 _) (leftL_any B p.has p.ack V.vh V.va wf Df.hh Df.ha (by omega)) ?_
    clear H a
    rintro e wg ⟨rfl, Eg⟩
    refine ⟨_, rfl, Eg, fun a H => ?_⟩
    refine g_take 10 H rfl (wanted_none rfl) rfl (by decide) (by kernel_rfl) (by kernel_rfl) (by kernel_rfl) Eg (fun w' hSw => (x_binI H rfl rfl rfl (b_eql (b := true) (beq_t (by rw [hul]))))) ?_
    clear H a; intro a H
    refine g_take 11 H rfl (wanted_none rfl) rfl (by decide) (by kernel_rfl) (by kernel_rfl) (by kernel_rfl) Eg (fun w' hSw => (x_move H rfl rfl)) ?_
    clear H a; intro a H
    refine g_take 12 H rfl (wanted_true H rfl rfl rfl rfl) rfl (by decide) (by kernel_rfl) (by kernel_rfl) (by kernel_rfl) Eg (fun w' hSw => (x_move H rfl rfl)) ?_
    clear H a; intro a H
    refine g_take 13 H rfl (wanted_true H rfl rfl rfl rfl) rfl (by decide) (by kernel_rfl) (by kernel_rfl) (by kernel_rfl) Eg (fun w' hSw => (x_nilCheck H rfl rfl)) ?_
    clear H a; intro a H
    refine g_take 14 H rfl (wanted_true H rfl rfl rfl rfl) rfl (by decide) (by kernel_rfl) (by kernel_rfl) (by kernel_rfl) Eg (fun w' hSw => (x_fieldAddr H rfl rfl (fa158_0 _ _))) ?_
    clear H a; intro a H
    refine g_take 15 H rfl (wanted_true H rfl rfl rfl rfl) rfl (by decide) (by kernel_rfl) (by kernel_rfl) (by kernel_rfl) Eg (fun w' hSw => (x_load H rfl rfl (l_cell Try.isAgg64 ((Df.ext hSw).blk.at_ (i := 0) rfl)))) ?_
    clear H a; intro a H
    refine g_take 17 H rfl (wanted_true H rfl rfl rfl rfl) rfl (by decide) (by kernel_rfl) (by kernel_rfl) (by kernel_rfl) Eg (fun w' hSw => (x_move H rfl rfl)) ?_
    clear H a; intro a H
    refine g_take 18 H rfl (wanted_true H rfl rfl rfl rfl) rfl (by decide) (by kernel_rfl) (by kernel_rfl) (by kernel_rfl) Eg (fun w' hSw => (x_nilCheck H rfl rfl)) ?_
    clear H a; intro a H
    refine g_take 19 H rfl (wanted_true H rfl rfl rfl rfl) rfl (by decide) (by kernel_rfl) (by kernel_rfl) (by kernel_rfl) Eg (fun w' hSw => (x_fieldAddr H rfl rfl (fa158_2 _ _))) ?_
    clear H a; intro a H
    refine g_take 20 H rfl (wanted_true H rfl rfl rfl rfl) rfl (by decide) (by kernel_rfl) (by kernel_rfl) (by kernel_rfl) Eg (fun w' hSw => (x_load H rfl rfl (ld_link (Df.ext hSw).blk))) ?_
    clear H a; intro a H
    refine g_call 16 H rfl (by kernel_rfl) (wanted_true H rfl rfl rfl rfl) rfl (by decide) rfl rfl (Try.call54 _) (done_any B gs V.vs p.s wg (Df.ext Eg).sn) ?_
    clear H a
    rintro e wy3 ⟨rfl, hwy⟩
    rw [hwy]
    refine ⟨_, rfl, Eg, fun a H => ?_⟩
    refine g_call 21 H rfl (by kernel_rfl) (wanted_true H rfl rfl rfl rfl) rfl (by decide) rfl rfl (Try.call131 _) (leftL_any B p.has p.ack V.vh V.va wg (Df.ext Eg).hh (Df.ext Eg).ha (by omega)) ?_
    clear H a
    rintro e wh ⟨rfl, Eh⟩
    refine ⟨_, rfl, Eg.tr Eh, fun a H => ?_⟩
    refine g_take 22 H rfl (wanted_true H rfl rfl rfl rfl) rfl (by decide) (by kernel_rfl) (by kernel_rfl) (by kernel_rfl) (Eg.tr Eh) (fun w' hSw => (x_binI H rfl rfl rfl (b_eql (b := decide ((unm (gb p.s.acked) (chunksT p.s.file.length)).length = 0)) (by rw [hul, Bool.eq_iff_iff, beq_iff_eq, decide_eq_true_eq]; omega)))) ?_
    clear H a; intro a H
    refine g_take 23 H rfl (wanted_true H rfl rfl rfl rfl) rfl (by decide) (by kernel_rfl) (by kernel_rfl) (by kernel_rfl) (Eg.tr Eh) (fun w' hSw => (x_bin H rfl rfl rfl (by rw [eqGuard_at_bool]; rfl) (b_eqlB (c := true) Try.underlying4 (by simp)))) ?_
    clear H a; intro a H
    refine g_take 24 H rfl (wanted_none rfl) rfl (by decide) (by kernel_rfl) (by kernel_rfl) (by kernel_rfl) (Eg.tr Eh) (fun w' hSw => (x_pickT H rfl rfl rfl)) ?_
    clear H a; intro a H
    refine g_take 25 H rfl (wanted_none rfl) rfl (by decide) (by kernel_rfl) (by kernel_rfl) (by kernel_rfl) (Eg.tr Eh) (fun w' hSw => (x_assign H rfl rfl)) ?_
    clear H a; intro a H
    refine g_done (by kernel_rfl) (hR.out _ _ ?_)
    clear hR R
    refine hK6 _ _ ?_
    clear hK6 K6
    refine wp_ret ?_
    exact ret1 H rfl rfl ⟨rfl, Eb.tr (Ewf.tr (Eg.tr Eh))⟩
  | false =>
    have hfd : (if p.r.done then p.r.data else []) = [] := by rw [hdn]; rfl
    rw [hdn] at hcm
    refine calls_has (args := [.pointer (some ⟨gw, 0, none⟩)]) Try.func101 rfl Try.ntmps101 (Nat.le_of_ble_eq_true rfl) (fun a H => ?_)
    simp only [argl, Nat.reduceAdd] at H
    refine wp_seq_k (fun K1 hK1 => ?_)
    refine e_region (fun R hR => ?_)
    refine e_op H rfl rfl (by decide) (x_assign H rfl rfl) ?_
    clear H a; intro a H
    refine e_nil (hR.out _ _ ?_)
    clear hR R
    refine hK1 _ _ ?_
    clear hK1 K1
    refine wp_seq_k (fun K2 hK2 => ?_)
    refine e_region (fun R hR => ?_)
    refine e_op H rfl rfl (by decide) (x_move H rfl rfl) ?_
    clear H a; intro a H
    refine e_op H rfl rfl (by decide) (x_nilCheck H rfl rfl) ?_
    clear H a; intro a H
    refine e_op H rfl rfl (by decide) (x_fieldAddr H rfl rfl (fa158_1 _ _)) ?_
    clear H a; intro a H
    refine e_op H rfl rfl (by decide) (x_load H rfl rfl (l_cell Try.isAgg65 (D.blk.at_ (i := 1) rfl))) ?_
    clear H a; intro a H
    refine e_callq H rfl rfl (by decide) rfl rfl (Try.call50 _) (file_rcv B gr V.vr p.r w0 D.rv) ?_
    clear H a
    rintro e w1 ⟨fa, fc, rfl, OF, E1⟩
    refine ⟨_, rfl, fun a H => ?_⟩
    have D1 := D.ext E1
    rw [hfd, hdn] at H
    refine e_op H rfl rfl (by decide) (x_move H rfl rfl) ?_
    clear H a; intro a H
    refine e_op H rfl rfl (by decide) (x_extract H rfl rfl (v := .slice fa ([] : List UInt8).length fc) rfl) ?_
    clear H a; intro a H
    refine e_op H rfl rfl (by decide) (x_extract H rfl rfl (v := .bool false) rfl) ?_
    clear H a; intro a H
    refine e_op H rfl rfl (by decide) (x_assign H rfl rfl) ?_
    clear H a; intro a H
    refine e_op H rfl rfl (by decide) (x_assign H rfl rfl) ?_
    clear H a; intro a H
    refine e_nil (hR.out _ _ ?_)
    clear hR R
    refine hK2 _ _ ?_
    clear hK2 K2
    refine wp_seq_k (fun K3 hK3 => ?_)
    obtain ⟨wd, hwd⟩ : ∃ wx, wx = w1.drew := ⟨_, rfl⟩
    have Ewd : Ext w1 wd := by rw [hwd]; exact (Ext.refl _).dr
    have Dd := D1.ext Ewd
    have FSq := Ext.refl wd
    refine g_start (fun w' => Ext wd w') (by kernel_rfl) (fun R hR => ?_)
    rw [← hwd]
    refine g_take 0 H rfl (wanted_none rfl) rfl (by decide) (by kernel_rfl) (by kernel_rfl) (by kernel_rfl) FSq (fun w' hSw => (x_move H rfl rfl)) ?_
    clear H a; intro a H
    refine g_take 1 H rfl (wanted_none rfl) rfl (by decide) (by kernel_rfl) (by kernel_rfl) (by kernel_rfl) FSq (fun w' hSw => (x_nilCheck H rfl rfl)) ?_
    clear H a; intro a H
    refine g_take 2 H rfl (wanted_none rfl) rfl (by decide) (by kernel_rfl) (by kernel_rfl) (by kernel_rfl) FSq (fun w' hSw => (x_fieldAddr H rfl rfl (fa158_2 _ _))) ?_
    clear H a; intro a H
    refine g_take 3 H rfl (wanted_none rfl) rfl (by decide) (by kernel_rfl) (by kernel_rfl) (by kernel_rfl) FSq (fun w' hSw => (x_load H rfl rfl (ld_link (Dd.ext hSw).blk))) ?_
    clear H a; intro a H
    refine g_take 4 H rfl (wanted_none rfl) rfl (by decide) (by kernel_rfl) (by kernel_rfl) (by kernel_rfl) FSq (fun w' hSw => (x_move H rfl rfl)) ?_
    clear H a; intro a H
    refine g_take 5 H rfl (wanted_none rfl) rfl (by decide) (by kernel_rfl) (by kernel_rfl) (by kernel_rfl) FSq (fun w' hSw => (x_nilCheck H rfl rfl)) ?_
    clear H a; intro a H
    refine g_take 6 H rfl (wanted_none rfl) rfl (by decide) (by kernel_rfl) (by kernel_rfl) (by kernel_rfl) FSq (fun w' hSw => (x_fieldAddr H rfl rfl (fa158_3 _ _))) ?_
    clear H a; intro a H
    refine g_take 7 H rfl (wanted_none rfl) rfl (by decide) (by kernel_rfl) (by kernel_rfl) (by kernel_rfl) FSq (fun w' hSw => (x_load H rfl rfl (l_cell (v := .slice la p.s.file.length lc) Try.isAgg22 ((Dd.ext hSw).blk.at_ (i := 4) (by rw [← hvl]; rfl))))) ?_
    clear H a; intro a H
    refine g_take 8 H rfl (wanted_none rfl) rfl (by decide) (by kernel_rfl) (by kernel_rfl) (by kernel_rfl) FSq (fun w' hSw => (x_builtin H rfl rfl (fun cs => len_sl Try.underlying22))) ?_
    clear H a; intro a H
    refine g_call 9 H rfl (by kernel_rfl) (wanted_none rfl) rfl (by decide) rfl rfl (Try.call129 _) (prefixL_any B p.has p.ack V.vh V.va p.s.file.length wd Dd.hh Dd.ha (by omega)) ?_
    clear H a
    rintro e w2 ⟨rfl, E2⟩
    refine ⟨_, rfl, E2, fun a H => ?_⟩
    have D2 := Dd.ext E2
    refine g_take 10 H rfl (wanted_none rfl) rfl (by decide) (by kernel_rfl) (by kernel_rfl) (by kernel_rfl) E2 (fun w' hSw => (x_assign H rfl rfl)) ?_
    clear H a; intro a H
    refine g_done (by kernel_rfl) (hR.out _ _ ?_)
    clear hR R
    refine hK3 _ _ ?_
    clear hK3 K3
    refine wp_seq_k (fun K4 hK4 => ?_)
    refine wp_seq_k (fun K5 hK5 => ?_)
    obtain ⟨we, hwe⟩ : ∃ wx, wx = w2.drew := ⟨_, rfl⟩
    have Ewe : Ext w2 we := by rw [hwe]; exact (Ext.refl _).dr
    have De := D2.ext Ewe
    have FSq := Ext.refl we
    refine g_start (fun w' => Ext we w') (by kernel_rfl) (fun R hR => ?_)
    rw [← hwe]
    refine g_take 0 H rfl (wanted_none rfl) rfl (by decide) (by kernel_rfl) (by kernel_rfl) (by kernel_rfl) FSq (fun w' hSw => (x_move H rfl rfl)) ?_
    clear H a; intro a H
    refine g_take 1 H rfl (wanted_none rfl) rfl (by decide) (by kernel_rfl) (by kernel_rfl) (by kernel_rfl) FSq (fun w' hSw => (x_move H rfl rfl)) ?_
    clear H a; intro a H
    refine g_take 2 H rfl (wanted_none rfl) rfl (by decide) (by kernel_rfl) (by kernel_rfl) (by kernel_rfl) FSq (fun w' hSw => (x_nilCheck H rfl rfl)) ?_
    clear H a; intro a H
    refine g_take 3 H rfl (wanted_none rfl) rfl (by decide) (by kernel_rfl) (by kernel_rfl) (by kernel_rfl) FSq (fun w' hSw => (x_fieldAddr H rfl rfl (fa158_2 _ _))) ?_
    clear H a; intro a H
    refine g_take 4 H rfl (wanted_none rfl) rfl (by decide) (by kernel_rfl) (by kernel_rfl) (by kernel_rfl) FSq (fun w' hSw => (x_load H rfl rfl (ld_link (De.ext hSw).blk))) ?_
    clear H a; intro a H
    refine g_call 5 H rfl (by kernel_rfl) (wanted_none rfl) rfl (by decide) rfl rfl (Try.call130 _) (completeL_any B p.has p.ack V.vh V.va we De.hh De.ha (by omega)) ?_
    clear H a
    rintro e wx ⟨rfl, Ex⟩
    refine ⟨_, rfl, Ex, fun a H => ?_⟩
    rw [hcm] at H
    refine g_take 6 H rfl (wanted_none rfl) rfl (by decide) (by kernel_rfl) (by kernel_rfl) (by kernel_rfl) Ex (fun w' hSw => (x_bin H rfl rfl rfl (by rw [eqGuard_at_bool]; rfl) (b_neqB (c := false) Try.underlying4 (by simp)))) ?_
    clear H a; intro a H
    refine g_take 7 H rfl (wanted_none rfl) rfl (by decide) (by kernel_rfl) (by kernel_rfl) (by kernel_rfl) Ex (fun w' hSw => (x_move H rfl rfl)) ?_
    clear H a; intro a H
    refine g_take 8 H rfl (wanted_true H rfl rfl rfl rfl) rfl (by decide) (by kernel_rfl) (by kernel_rfl) (by kernel_rfl) Ex (fun w' hSw => (x_move H rfl rfl)) ?_
    clear H a; intro a H
    refine g_take 9 H rfl (wanted_true H rfl rfl rfl rfl) rfl (by decide) (by kernel_rfl) (by kernel_rfl) (by kernel_rfl) Ex (fun w' hSw => (x_move H rfl rfl)) ?_
    clear H a; intro a H
    refine g_skip 10 H rfl (wanted_false H rfl rfl rfl rfl) rfl (by decide) (by kernel_rfl) (by kernel_rfl) (by kernel_rfl) Ex ?_
    clear H a; intro a H
    refine g_skip 11 H rfl (wanted_false H rfl rfl rfl rfl) rfl (by decide) (by kernel_rfl) (by kernel_rfl) (by kernel_rfl) Ex ?_
    clear H a; intro a H
    refine g_skip 12 H rfl (wanted_false H rfl rfl rfl rfl) rfl (by decide) (by kernel_rfl) (by kernel_rfl) (by kernel_rfl) Ex ?_
    clear H a; intro a H
    refine g_skip 13 H rfl (wanted_false H rfl rfl rfl rfl) rfl (by decide) (by kernel_rfl) (by kernel_rfl) (by kernel_rfl) Ex ?_
    clear H a; intro a H
    refine g_skip 14 H rfl (wanted_false H rfl rfl rfl rfl) rfl (by decide) (by kernel_rfl) (by kernel_rfl) (by kernel_rfl) Ex ?_
    clear H a; intro a H
    refine g_skip 15 H rfl (wanted_false H rfl rfl rfl rfl) rfl (by decide) (by kernel_rfl) (by kernel_rfl) (by kernel_rfl) Ex ?_
    clear H a; intro a H
    refine g_skip 16 H rfl (wanted_false H rfl rfl rfl rfl) rfl (by decide) (by kernel_rfl) (by kernel_rfl) (by kernel_rfl) Ex ?_
    clear H a; intro a H
    refine g_take 17 H rfl (wanted_true H rfl rfl rfl rfl) rfl (by decide) (by kernel_rfl) (by kernel_rfl) (by kernel_rfl) Ex (fun w' hSw => (x_pickF H rfl rfl rfl)) ?_
    clear H a; intro a H
    refine g_take 18 H rfl (wanted_none rfl) rfl (by decide) (by kernel_rfl) (by kernel_rfl) (by kernel_rfl) Ex (fun w' hSw => (x_pickF H rfl rfl rfl)) ?_
    clear H a; intro a H
    refine g_take 19 H rfl (wanted_none rfl) rfl (by decide) (by kernel_rfl) (by kernel_rfl) (by kernel_rfl) Ex (fun w' hSw => (x_move H rfl rfl)) ?_
    clear H a; intro a H
    refine g_take 20 H rfl (wanted_true H rfl rfl rfl rfl) rfl (by decide) (by kernel_rfl) (by kernel_rfl) (by kernel_rfl) Ex (fun w' hSw => (x_move H rfl rfl)) ?_
    clear H a; intro a H
    refine g_take 21 H rfl (wanted_true H rfl rfl rfl rfl) rfl (by decide) (by kernel_rfl) (by kernel_rfl) (by kernel_rfl) Ex (fun w' hSw => (x_un H rfl rfl (u_not (c := true) (rfl)))) ?_
    clear H a; intro a H
    refine g_take 22 H rfl (wanted_true H rfl rfl rfl rfl) rfl (by decide) (by kernel_rfl) (by kernel_rfl) (by kernel_rfl) Ex (fun w' hSw => (x_move H rfl rfl)) ?_
    clear H a; intro a H
    refine g_take 23 H rfl (wanted_true H rfl rfl rfl rfl) rfl (by decide) (by kernel_rfl) (by kernel_rfl) (by kernel_rfl) Ex (fun w' hSw => (x_move H rfl rfl)) ?_
    clear H a; intro a H
    refine g_take 24 H rfl (wanted_true H rfl rfl rfl rfl) rfl (by decide) (by kernel_rfl) (by kernel_rfl) (by kernel_rfl) Ex (fun w' hSw => (x_builtin H rfl rfl (fun cs => len_sl Try.underlying22))) ?_
    clear H a; intro a H
    refine g_take 25 H rfl (wanted_true H rfl rfl rfl rfl) rfl (by decide) (by kernel_rfl) (by kernel_rfl) (by kernel_rfl) Ex (fun w' hSw => (x_binI H rfl rfl rfl (b_neq (b := false) (rfl)))) ?_
    clear H a; intro a H
    refine g_take 26 H rfl (wanted_true H rfl rfl rfl rfl) rfl (by decide) (by kernel_rfl) (by kernel_rfl) (by kernel_rfl) Ex (fun w' hSw => (x_pickT H rfl rfl rfl)) ?_
    clear H a; intro a H
    refine g_take 27 H rfl (wanted_none rfl) rfl (by decide) (by kernel_rfl) (by kernel_rfl) (by kernel_rfl) Ex (fun w' hSw => (x_pickF H rfl rfl rfl)) ?_
    clear H a; intro a H
    refine g_take 28 H rfl (wanted_none rfl) rfl (by decide) (by kernel_rfl) (by kernel_rfl) (by kernel_rfl) Ex (fun w' hSw => (x_move H rfl rfl)) ?_
    clear H a; intro a H
    refine g_take 29 H rfl (wanted_true H rfl rfl rfl rfl) rfl (by decide) (by kernel_rfl) (by kernel_rfl) (by kernel_rfl) Ex (fun w' hSw => (x_move H rfl rfl)) ?_
    clear H a; intro a H
    refine g_take 30 H rfl (wanted_true H rfl rfl rfl rfl) rfl (by decide) (by kernel_rfl) (by kernel_rfl) (by kernel_rfl) Ex (fun w' hSw => (x_nilCheck H rfl rfl)) ?_
    clear H a; intro a H
    refine g_take 31 H rfl (wanted_true H rfl rfl rfl rfl) rfl (by decide) (by kernel_rfl) (by kernel_rfl) (by kernel_rfl) Ex (fun w' hSw => (x_fieldAddr H rfl rfl (fa158_1 _ _))) ?_
    clear H a; intro a H
    refine g_take 32 H rfl (wanted_true H rfl rfl rfl rfl) rfl (by decide) (by kernel_rfl) (by kernel_rfl) (by kernel_rfl) Ex (fun w' hSw => (x_load H rfl rfl (l_cell Try.isAgg65 ((De.ext hSw).blk.at_ (i := 1) rfl)))) ?_
    clear H a; intro a H
    refine g_take 34 H rfl (wanted_true H rfl rfl rfl rfl) rfl (by decide) (by kernel_rfl) (by kernel_rfl) (by kernel_rfl) Ex (fun w' hSw => (x_move H rfl rfl)) ?_
    clear H a; intro a H
    refine g_take 35 H rfl (wanted_true H rfl rfl rfl rfl) rfl (by decide) (by kernel_rfl) (by kernel_rfl) (by kernel_rfl) Ex (fun w' hSw => (x_nilCheck H rfl rfl)) ?_
    clear H a; intro a H
    refine g_take 36 H rfl (wanted_true H rfl rfl rfl rfl) rfl (by decide) (by kernel_rfl) (by kernel_rfl) (by kernel_rfl) Ex (fun w' hSw => (x_fieldAddr H rfl rfl (fa158_3 _ _))) ?_
    clear H a; intro a H
    refine g_take 37 H rfl (wanted_true H rfl rfl rfl rfl) rfl (by decide) (by kernel_rfl) (by kernel_rfl) (by kernel_rfl) Ex (fun w' hSw => (x_load H rfl rfl (l_cell (v := .slice la p.s.file.length lc) Try.isAgg22 ((De.ext hSw).blk.at_ (i := 4) (by rw [← hvl]; rfl))))) ?_
    clear H a; intro a H
    refine g_take 38 H rfl (wanted_true H rfl rfl rfl rfl) rfl (by decide) (by kernel_rfl) (by kernel_rfl) (by kernel_rfl) Ex (fun w' hSw => (x_move H rfl rfl)) ?_
    clear H a; intro a H
    refine g_take 39 H rfl (wanted_true H rfl rfl rfl rfl) rfl (by decide) (by kernel_rfl) (by kernel_rfl) (by kernel_rfl) Ex (fun w' hSw => (x_slice H rfl rfl rfl rfl (sl_hi (hi := (min (front (gb p.has) p.has.length * 64) p.s.file.length)) Try.underlying22 Try.sizeOf5 rfl (by omega)))) ?_
    clear H a; intro a H
    refine g_call 33 H rfl (by kernel_rfl) (wanted_true H rfl rfl rfl rfl) rfl (by decide) rfl rfl (Try.call58 _) (prefix_any B gr V.vr p.r wx (De.ext Ex).rv) ?_
    clear H a
    rintro e wz ⟨pa, pc, rfl, OP, Ez⟩
    refine ⟨_, rfl, Ex.tr Ez, fun a H => ?_⟩
    refine g_call 40 H rfl (by kernel_rfl) (wanted_true H rfl rfl rfl rfl) rfl (by decide) rfl rfl (Try.call45 _) (same1_any pa p.r.prefix_.length pc la (min (front (gb p.has) p.has.length * 64) p.s.file.length) lc p.r.prefix_ (file.take (min (front (gb p.has) p.has.length * 64) p.s.file.length)) wz OP.bs (hpre ▸ bs_hi ((De.ext (Ex.tr Ez)).fl2 hvl).bs (min (front (gb p.has) p.has.length * 64) p.s.file.length) (by omega)) (by omega)) ?_
    clear H a
    rintro e wq ⟨rfl, Eq⟩
    refine ⟨_, rfl, Ex.tr (Ez.tr Eq), fun a H => ?_⟩
    rw [hpx, decide_eq_true rfl] at H
    refine g_take 41 H rfl (wanted_true H rfl rfl rfl rfl) rfl (by decide) (by kernel_rfl) (by kernel_rfl) (by kernel_rfl) (Ex.tr (Ez.tr Eq)) (fun w' hSw => (x_un H rfl rfl (u_not (c := false) (rfl)))) ?_
    clear H a; intro a H
    refine g_take 42 H rfl (wanted_none rfl) rfl (by decide) (by kernel_rfl) (by kernel_rfl) (by kernel_rfl) (Ex.tr (Ez.tr Eq)) (fun w' hSw => (x_pickF H rfl rfl rfl)) ?_
    clear H a; intro a H
    refine g_done (by kernel_rfl) (hR.out _ _ ?_)
    clear hR R
    refine hK5 _ _ ?_
    clear hK5 K5
    refine c_false H rfl ?_
    refine wp_skip ?_
    refine hK4 _ _ ?_
    clear hK4 K4
    refine wp_seq_k (fun K6 hK6 => ?_)
    have Db := De.ext (Ex.tr (Ez.tr Eq))
    obtain ⟨wb, hwb⟩ : ∃ x, x = wq := ⟨_, rfl⟩
    have Eb : Ext w0 wb := by rw [hwb]; exact E1.tr (Ewd.tr (E2.tr (Ewe.tr (Ex.tr (Ez.tr Eq)))))
    rw [← hwb] at Db ⊢
    clear hwb
    obtain ⟨wf, hwf⟩ : ∃ wx, wx = wb.drew := ⟨_, rfl⟩
    have Ewf : Ext wb wf := by rw [hwf]; exact (Ext.refl _).dr
    have Df := Db.ext Ewf
    have GS := Ext.refl wf
    refine g_start (fun w' => Ext wf w') (by kernel_rfl) (fun R hR => ?_)
    rw [← hwf]
    refine g_take 0 H rfl (wanted_none rfl) rfl (by decide) (by kernel_rfl) (by kernel_rfl) (by kernel_rfl) GS (fun w' hSw => (x_move H rfl rfl)) ?_
    clear H a; intro a H
    refine g_take 1 H rfl (wanted_none rfl) rfl (by decide) (by kernel_rfl) (by kernel_rfl) (by kernel_rfl) GS (fun w' hSw => (x_nilCheck H rfl rfl)) ?_
    clear H a; intro a H
    refine g_take 2 H rfl (wanted_none rfl) rfl (by decide) (by kernel_rfl) (by kernel_rfl) (by kernel_rfl) GS (fun w' hSw => (x_fieldAddr H rfl rfl (fa158_0 _ _))) ?_
    clear H a; intro a H
    refine g_take 3 H rfl (wanted_none rfl) rfl (by decide) (by kernel_rfl) (by kernel_rfl) (by kernel_rfl) GS (fun w' hSw => (x_load H rfl rfl (l_cell Try.isAgg64 ((Df.ext hSw).blk.at_ (i := 0) rfl)))) ?_
    clear H a; intro a H
    refine g_take 5 H rfl (wanted_none rfl) rfl (by decide) (by kernel_rfl) (by kernel_rfl) (by kernel_rfl) GS (fun w' hSw => (x_move H rfl rfl)) ?_
    clear H a; intro a H
    refine g_take 6 H rfl (wanted_none rfl) rfl (by decide) (by kernel_rfl) (by kernel_rfl) (by kernel_rfl) GS (fun w' hSw => (x_nilCheck H rfl rfl)) ?_
    clear H a; intro a H
    refine g_take 7 H rfl (wanted_none rfl) rfl (by decide) (by kernel_rfl) (by kernel_rfl) (by kernel_rfl) GS (fun w' hSw => (x_fieldAddr H rfl rfl (fa158_2 _ _))) ?_
    clear H a; intro a H
    refine g_take 8 H rfl (wanted_none rfl) rfl (by decide) (by kernel_rfl) (by kernel_rfl) (by kernel_rfl) GS (fun w' hSw => (x_load H rfl rfl (ld_link (Df.ext hSw).blk))) ?_
    clear H a; intro a H
    refine g_call 4 H rfl (by kernel_rfl) (wanted_none rfl) rfl (by decide) rfl rfl (Try.call55 _) (left_any B gs V.vs p.s wf Df.sn) ?_
    clear H a
    rintro e wy2 ⟨rfl, hwy⟩
    rw [hwy]
    refine ⟨_, rfl, GS, fun a H => ?_⟩
    refine g_call 9 H rfl (by kernel_rfl) (wanted_none rfl) rfl (by decide) rfl rfl (Try.call131 _) (leftL_any B p.has p.ack V.vh V.va wf Df.hh Df.ha (by omega)) ?_
    clear H a
    rintro e wg ⟨rfl, Eg⟩
    refine ⟨_, rfl, Eg, fun a H => ?_⟩
    refine g_take 10 H rfl (wanted_none rfl) rfl (by decide) (by kernel_rfl) (by kernel_rfl) (by kernel_rfl) Eg (fun w' hSw => (x_binI H rfl rfl rfl (b_eql (b := true) (beq_t (by rw [hul]))))) ?_
    clear H a; intro a H
    refine g_take 11 H rfl (wanted_none rfl) rfl (by decide) (by kernel_rfl) (by kernel_rfl) (by kernel_rfl) Eg (fun w' hSw => (x_move H rfl rfl)) ?_
    clear H a; intro a H
    refine g_take 12 H rfl (wanted_true H rfl rfl rfl rfl) rfl (by decide) (by kernel_rfl) (by kernel_rfl) (by kernel_rfl) Eg (fun w' hSw => (x_move H rfl rfl)) ?_
    clear H a; intro a H
    refine g_take 13 H rfl (wanted_true H rfl rfl rfl rfl) rfl (by decide) (by kernel_rfl) (by kernel_rfl) (by kernel_rfl) Eg (fun w' hSw => (x_nilCheck H rfl rfl)) ?_
    clear H a; intro a H
    refine g_take 14 H rfl (wanted_true H rfl rfl rfl rfl) rfl (by decide) (by kernel_rfl) (by kernel_rfl) (by kernel_rfl) Eg (fun w' hSw => (x_fieldAddr H rfl rfl (fa158_0 _ _))) ?_
    clear H a; intro a H
    refine g_take 15 H rfl (wanted_true H rfl rfl rfl rfl) rfl (by decide) (by kernel_rfl) (by kernel_rfl) (by kernel_rfl) Eg (fun w' hSw => (x_load H rfl rfl (l_cell Try.isAgg64 ((Df.ext hSw).blk.at_ (i := 0) rfl)))) ?_
    clear H a; intro a H
    refine g_take 17 H rfl (wanted_true H rfl rfl rfl rfl) rfl (by decide) (by kernel_rfl) (by kernel_rfl) (by kernel_rfl) Eg (fun w' hSw => (x_move H rfl rfl)) ?_
    clear H a; intro a H
    refine g_take 18 H rfl (wanted_true H rfl rfl rfl rfl) rfl (by decide) (by kernel_rfl) (by kernel_rfl) (by kernel_rfl) Eg (fun w' hSw => (x_nilCheck H rfl rfl)) ?_
    clear H a; intro a H
    refine g_take 19 H rfl (wanted_true H rfl rfl rfl rfl) rfl (by decide) (by kernel_rfl) (by kernel_rfl) (by kernel_rfl) Eg (fun w' hSw => (x_fieldAddr H rfl rfl (fa158_2 _ _))) ?_
    clear H a; intro a H
    refine g_take 20 H rfl (wanted_true H rfl rfl rfl rfl) rfl (by decide) (by kernel_rfl) (by kernel_rfl) (by kernel_rfl) Eg (fun w' hSw => (x_load H rfl rfl (ld_link (Df.ext hSw).blk))) ?_
    clear H a; intro a H
    refine g_call 16 H rfl (by kernel_rfl) (wanted_true H rfl rfl rfl rfl) rfl (by decide) rfl rfl (Try.call54 _) (done_any B gs V.vs p.s wg (Df.ext Eg).sn) ?_
    clear H a
    rintro e wy3 ⟨rfl, hwy⟩
    rw [hwy]
    refine ⟨_, rfl, Eg, fun a H => ?_⟩
    refine g_call 21 H rfl (by kernel_rfl) (wanted_true H rfl rfl rfl rfl) rfl (by decide) rfl rfl (Try.call131 _) (leftL_any B p.has p.ack V.vh V.va wg (Df.ext Eg).hh (Df.ext Eg).ha (by omega)) ?_
    clear H a
    rintro e wh ⟨rfl, Eh⟩
    refine ⟨_, rfl, Eg.tr Eh, fun a H => ?_⟩
    refine g_take 22 H rfl (wanted_true H rfl rfl rfl rfl) rfl (by decide) (by kernel_rfl) (by kernel_rfl) (by kernel_rfl) (Eg.tr Eh) (fun w' hSw => (x_binI H rfl rfl rfl (b_eql (b := decide ((unm (gb p.s.acked) (chunksT p.s.file.length)).length = 0)) (by rw [hul, Bool.eq_iff_iff, beq_iff_eq, decide_eq_true_eq]; omega)))) ?_
    clear H a; intro a H
    refine g_take 23 H rfl (wanted_true H rfl rfl rfl rfl) rfl (by decide) (by kernel_rfl) (by kernel_rfl) (by kernel_rfl) (Eg.tr Eh) (fun w' hSw => (x_bin H rfl rfl rfl (by rw [eqGuard_at_bool]; rfl) (b_eqlB (c := true) Try.underlying4 (by simp)))) ?_
    clear H a; intro a H
    refine g_take 24 H rfl (wanted_none rfl) rfl (by decide) (by kernel_rfl) (by kernel_rfl) (by kernel_rfl) (Eg.tr Eh) (fun w' hSw => (x_pickT H rfl rfl rfl)) ?_
    clear H a; intro a H
    refine g_take 25 H rfl (wanted_none rfl) rfl (by decide) (by kernel_rfl) (by kernel_rfl) (by kernel_rfl) (Eg.tr Eh) (fun w' hSw => (x_assign H rfl rfl)) ?_
    clear H a; intro a H
    refine g_done (by kernel_rfl) (hR.out _ _ ?_)
    clear hR R
    refine hK6 _ _ ?_
    clear hK6 K6
    refine wp_ret ?_
    exact ret1 H rfl rfl ⟨rfl, Eb.tr (Ewf.tr (Eg.tr Eh))⟩
end Go.Proofs.Ytknllmcpogoeoaa
