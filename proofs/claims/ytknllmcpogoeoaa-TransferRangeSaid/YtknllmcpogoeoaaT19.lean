/- TransferRange, walked. -/
import Derived.Test.YtknllmcpogoeoaaT18
namespace Go.Proofs.Ytknllmcpogoeoaa
open Go.RowKit
set_option linter.unusedVariables false
set_option linter.unusedSimpArgs false
set_option maxRecDepth 100000
theorem unm_none (n : Nat) : unm (gb noMarks) n = List.range n := by
  rw [unm_no]
  unfold unm
  rw [List.filter_eq_self]
  intro k _; rfl
theorem unm_below (n m : Nat) (f : Nat → Bool) (h : ∀ k, f k = decide (k < m)) : (unm f n).length = n - m := by
  rw [unm_congr (g := fun k => decide (k < m)) (fun k _ => h k)]
  clear h
  induction n with
  | zero => simp [unm]
  | succ n ih =>
    rw [unm_succ]
    by_cases hn : n < m
    · rw [decide_eq_true hn, if_pos rfl, ih]; omega
    · rw [decide_eq_false hn]
      simp only [Bool.false_eq_true, if_false, List.length_append, ih, List.length_singleton]
      omega
set_option maxHeartbeats 8000000 in
theorem transferRange_any (ad : Option Addr) (n c : Nat) (f : List UInt8) (t : Nat) (ad2 : Option Addr) (n2 c2 : Nat) (f2 : List UInt8) (t2 x : Nat) (w0 : World) (hb : Bs w0 ad n f) (hz : ad = none → c = 0) (hn : n ≤ 140737488351232) (htt : t ≤ 255)
    (hb2 : Bs w0 ad2 n2 f2) (hz2 : ad2 = none → c2 = 0) (hn2 : n2 ≤ 140737488351232) (htt2 : t2 ≤ 255) (hxx : x ≤ 255) :
    Calls Try.prog 28 #[.agg #[.slice ad n c, .int .u8 (t : Int)], .agg #[.slice ad2 n2 c2, .int .u8 (t2 : Int)], .int .u8 (x : Int)] w0 fun e w' => e = .returned (.bool true) ∧ Ext w0 w' := by
  obtain ⟨fb, hfb⟩ : ∃ fb, fb = fileB f t := ⟨_, rfl⟩
  have hfl := fileB_len f t
  rw [← hfb] at hfl
  obtain ⟨fx, hfx⟩ : ∃ fx, fx = fileB f2 t2 := ⟨_, rfl⟩
  have hxl := fileB_len f2 t2
  rw [← hfx] at hxl
  obtain ⟨cm, hcm⟩ : ∃ cm, min 8 (chunksT fx.length) = cm := ⟨_, rfl⟩
  have hcx := chunksT_pos fx.length
  have hcu : chunksT fb.length ≤ 3000 := by unfold chunksT; omega
  refine calls_has (args := [.agg #[.slice ad n c, .int .u8 (t : Int)], .agg #[.slice ad2 n2 c2, .int .u8 (t2 : Int)], .int .u8 (x : Int)]) Try.func28 rfl Try.ntmps28 (Nat.le_of_ble_eq_true rfl) (fun a H => ?_)
  simp only [argl, Nat.reduceAdd] at H
  refine wp_seq_k (fun K1 hK1 => ?_)
  refine e_region (fun R hR => ?_)
  refine e_op H rfl rfl (by decide) (x_box H rfl rfl bx_new) ?_
  clear H a; intro a H
  have T3 := Blk.new w0 148 [.slice ad n c, .int .u8 (t : Int)]
  have E00 := (Ext.refl w0).al (.cells #[.slice ad n c, .int .u8 (t : Int)] 148)
  obtain ⟨g3, hg3⟩ : ∃ g, g = w0.heap.size := ⟨_, rfl⟩
  rw [← hg3] at H T3
  generalize w0.alloc (.cells #[.slice ad n c, .int .u8 (t : Int)] 148) = wb at *
  refine e_op H rfl rfl (by decide) (x_box H rfl rfl bx_new) ?_
  clear H a; intro a H
  have Ebx := (Ext.refl wb).al (.cells #[.slice ad2 n2 c2, .int .u8 (t2 : Int)] 148)
  have T4 := Blk.new wb 148 [.slice ad2 n2 c2, .int .u8 (t2 : Int)]
  have E01 := E00.al (.cells #[.slice ad2 n2 c2, .int .u8 (t2 : Int)] 148)
  obtain ⟨g4, hg4⟩ : ∃ g, g = wb.heap.size := ⟨_, rfl⟩
  rw [← hg4] at H T4
  generalize wb.alloc (.cells #[.slice ad2 n2 c2, .int .u8 (t2 : Int)] 148) = w1 at *
  replace T3 := T3.ext Ebx
  refine e_op H rfl rfl (by decide) (x_assign H rfl rfl) ?_
  clear H a; intro a H
  refine e_nil (hR.out _ _ ?_)
  clear hR R
  refine hK1 _ _ ?_
  clear hK1 K1
  refine wp_seq_k (fun K2 hK2 => ?_)
  refine wp_seq_k (fun K3 hK3 => ?_)
  refine e_region (fun R hR => ?_)
  refine e_callq H rfl rfl (by decide) rfl rfl (Try.call51 _) (awake_any w1) ?_
  clear H a
  rintro e w2 ⟨rfl, E⟩
  refine ⟨_, rfl, fun a H => ?_⟩
  refine e_op H rfl rfl (by decide) (x_un H rfl rfl (u_not (c := false) (rfl))) ?_
  clear H a; intro a H
  refine e_nil (hR.out _ _ ?_)
  clear hR R
  refine hK3 _ _ ?_
  clear hK3 K3
  refine c_false H rfl ?_
  refine wp_skip ?_
  refine hK2 _ _ ?_
  clear hK2 K2
  refine wp_seq_k (fun K4 hK4 => ?_)
  refine e_region (fun R hR => ?_)
  refine e_op H rfl rfl (by decide) (x_load H rfl rfl (ld_file (T3.ext E))) ?_
  clear H a; intro a H
  refine e_callq H rfl rfl (by decide) rfl rfl (Try.call98 _) (bytesG_any ad n c f t fb hfb w2 (E.bs (E01.bs hb)) hz hn htt) ?_
  clear H a
  rintro e w3 ⟨fa, fc, rfl, OF, E3⟩
  refine ⟨_, rfl, fun a H => ?_⟩
  replace OF := OF.mono E.sz
  replace E := E.tr E3
  refine e_callq H rfl rfl (by decide) rfl rfl (Try.call97 _) (begin_any w1.heap.size 9 fa fb.length fc fb w3 OF E.sz (by omega) (by omega)) ?_
  clear H a
  rintro e w4 ⟨gw, gs, gr, V, rfl, D, h1, h2, h3, hvl, E4⟩
  refine ⟨_, rfl, fun a H => ?_⟩
  replace E := E.tr E4
  refine e_op H rfl rfl (by decide) (x_assign H rfl rfl) ?_
  clear H a; intro a H
  refine e_nil (hR.out _ _ ?_)
  clear hR R
  refine hK4 _ _ ?_
  clear hK4 K4
  refine wp_seq_k (fun K5 hK5 => ?_)
  refine e_region (fun R hR => ?_)
  obtain ⟨wx0, hwx0⟩ : ∃ x, x = w4 := ⟨_, rfl⟩
  rw [← hwx0] at D E ⊢
  clear hwx0
  have X := Ext.refl wx0
  refine e_op H rfl rfl (by decide) (x_load H rfl rfl (ld_file (T4.ext E))) ?_
  clear H a; intro a H
  refine e_callq H rfl rfl (by decide) rfl rfl (Try.call98 _) (bytesG_any ad2 n2 c2 f2 t2 fx hfx wx0 (E.bs (E01.bs hb2)) hz2 hn2 htt2) ?_
  clear H a
  rintro e x1 ⟨xa, xc, rfl, OX, EX⟩
  refine ⟨_, rfl, fun a H => ?_⟩
  replace X := X.tr EX
  clear EX
  refine e_callq H rfl rfl (by decide) rfl rfl (Try.call97 _) (begin_any wx0.heap.size 9 xa fx.length xc fx x1 OX X.sz (by omega) (by omega)) ?_
  clear H a
  rintro e x2 ⟨yw, ys, yr, Y, rfl, DY, k1, k2, k3, hyl, EX2⟩
  refine ⟨_, rfl, fun a H => ?_⟩
  replace X := X.tr EX2
  clear EX2
  refine e_op H rfl rfl (by decide) (x_assign H rfl rfl) ?_
  clear H a; intro a H
  refine e_nil (hR.out _ _ ?_)
  clear hR R
  refine hK5 _ _ ?_
  clear hK5 K5
  refine wp_seq_k (fun K6 hK6 => ?_)
  refine wp_seq_k (fun K7 hK7 => ?_)
  refine e_region (fun R hR => ?_)
  refine e_op H rfl rfl (by decide) (x_move H rfl rfl) ?_
  clear H a; intro a H
  refine e_op H rfl rfl (by decide) (x_bin H rfl rfl rfl (by rw [eqGuard_at_pointer]; rfl) (b_pnil (c := false) Try.underlying149 rfl)) ?_
  clear H a; intro a H
  refine e_op H rfl rfl (by decide) (x_move H rfl rfl) ?_
  clear H a; intro a H
  refine e_opg H (wanted_true H rfl rfl rfl rfl) rfl (by decide) (x_move H rfl rfl) ?_
  clear H a; intro a H
  refine e_opg H (wanted_true H rfl rfl rfl rfl) rfl (by decide) (x_bin H rfl rfl rfl (by rw [eqGuard_at_pointer]; rfl) (b_pnil (c := false) Try.underlying149 rfl)) ?_
  clear H a; intro a H
  refine e_op H rfl rfl (by decide) (x_pickF H rfl rfl rfl) ?_
  clear H a; intro a H
  refine e_nil (hR.out _ _ ?_)
  clear hR R
  refine hK7 _ _ ?_
  clear hK7 K7
  refine c_false H rfl ?_
  refine wp_skip ?_
  refine hK6 _ _ ?_
  clear hK6 K6
  refine wp_seq_k (fun K8 hK8 => ?_)
  refine wp_seq_k (fun K9 hK9 => ?_)
  refine e_region (fun R hR => ?_)
  refine e_op H rfl rfl (by decide) (x_move H rfl rfl) ?_
  clear H a; intro a H
  refine e_op H rfl rfl (by decide) (x_nilCheck H rfl rfl) ?_
  clear H a; intro a H
  refine e_op H rfl rfl (by decide) (x_fieldAddr H rfl rfl (fa158_0 _ _)) ?_
  clear H a; intro a H
  refine e_op H rfl rfl (by decide) (x_load H rfl rfl (l_cell Try.isAgg64 (DY.blk.at_ (i := 0) rfl))) ?_
  clear H a; intro a H
  refine e_callq H rfl rfl (by decide) rfl rfl (Try.call52 _) (out_any wx0.heap.size ys Y.vs (p0 9 fx).s x2 DY.sn) ?_
  clear H a
  rintro e x3 ⟨vz, zs, rfl, RZ, EZ, EX3⟩
  have OZ := Outs.of DY.rv RZ EZ X.sz
  replace DY := DY.ext EX3
  replace X := X.tr EX3
  obtain ⟨za, zc, rfl, _⟩ := RZ.shape
  clear RZ EZ EX3
  have hol : ((unm (gb (p0 9 fx).s.acked) (chunksT (p0 9 fx).s.file.length)).take 8).map (pkt (p0 9 fx).s.id (p0 9 fx).s.file) = (List.range cm).map (pkt 9 fx) := by
    show ((unm (gb noMarks) (chunksT fx.length)).take 8).map (pkt 9 fx) = _
    rw [unm_none, List.take_range, hcm]
  rw [hol] at OZ
  have hzl : zs.length = cm := by rw [OZ.els.len, List.length_map, List.length_range]
  refine ⟨_, rfl, fun a H => ?_⟩
  refine e_op H rfl rfl (by decide) (x_builtin H rfl rfl (fun cs => len_sl Try.underlying37)) ?_
  clear H a; intro a H
  refine e_op H rfl rfl (by decide) (x_move H rfl rfl) ?_
  clear H a; intro a H
  refine e_nil (hR.out _ _ ?_)
  clear hR R
  refine hK9 _ _ ?_
  clear hK9 K9
  refine wp_block ?_
  refine wp_loop_ghost (fun n' a w => ∃ i y1 ry, i ≤ cm ∧ n' = cm - i ∧ Has a 136 [(2, .int .u8 (x : Int)), (7, .pointer (some ⟨gw, 0, none⟩)), (8, .pointer (some ⟨yw, 0, none⟩)), (34, .slice za zs.length zc), (35, .int .i64 ((zs.length : Nat) : Int)), (36, .int .i64 (i : Int))] ∧ Wd w wx0.heap.size yw ys yr { Y with vr := y1 } { (p0 9 fx) with r := ry } ∧ ry.of 9 fx ∧ (∀ k, gb ry.has k = decide (k < i)) ∧ Outs w wx0.heap.size y1 (.slice za zs.length zc) zs ((List.range cm).map (pkt 9 fx)) ∧ Ext wx0 w) (cm) ?_ ?_
  · skip
    exact ⟨0, Y.vr, ⟨9, false, [], noMarks⟩, by omega, rfl, H.sub ⟨rfl, rfl, rfl, rfl, rfl, rfl, trivial⟩, DY, Rcv.of_new 9 fx, fun k => by rw [gb_no]; rfl, OZ, X⟩
  · skip
    clear H OZ X
    intro n a w hI
    obtain ⟨i, y1, ry, hi, rfl, H, DY, KY, GY, OZ, X⟩ := hI
    rcases (show i < cm ∨ i = cm by omega) with hlt | hie
    · skip
      have hrl : ((List.range cm).map (pkt 9 fx))[i]? = some (pkt 9 fx i) := by rw [List.getElem?_map, List.getElem?_range hlt]; rfl
      obtain ⟨gz, oz, ap, cp, hza, hposz, hcl, hOp, _⟩ := OZ.elem i _ hrl
      rw [hza] at H OZ
      refine wp_seq_k (fun K10 hK10 => ?_)
      refine e_region (fun R hR => ?_)
      refine e_op H rfl rfl (by decide) (x_binI H rfl rfl rfl (b_lss (b := true) (dec_t (by omega)))) ?_
      clear H a; intro a H
      refine e_nil (hR.out _ _ ?_)
      clear hR R
      refine hK10 _ _ ?_
      clear hK10 K10
      refine wp_seq_k (fun K11 hK11 => ?_)
      refine c_true H rfl ?_
      refine wp_skip ?_
      refine hK11 _ _ ?_
      clear hK11 K11
      refine wp_seq_k (fun K12 hK12 => ?_)
      refine wp_block ?_
      refine wp_seq_k (fun K13 hK13 => ?_)
      refine e_region (fun R hR => ?_)
      refine e_op H rfl rfl (by decide) (x_indexAddr H rfl rfl rfl (i_sl (m := i) Try.underlying37 Try.sizeOf22 rfl (by omega))) ?_
      clear H a; intro a H
      refine e_op H rfl rfl (by decide) (x_load H rfl rfl (l_cell Try.isAgg22 (hcl))) ?_
      clear H a; intro a H
      refine e_op H rfl rfl (by decide) (x_assign H rfl rfl) ?_
      clear H a; intro a H
      refine e_nil (hR.out _ _ ?_)
      clear hR R
      refine hK13 _ _ ?_
      clear hK13 K13
      refine wp_seq_k (fun K14 hK14 => ?_)
      refine e_region (fun R hR => ?_)
      refine e_op H rfl rfl (by decide) (x_move H rfl rfl) ?_
      clear H a; intro a H
      refine e_op H rfl rfl (by decide) (x_nilCheck H rfl rfl) ?_
      clear H a; intro a H
      refine e_op H rfl rfl (by decide) (x_fieldAddr H rfl rfl (fa158_1 _ _)) ?_
      clear H a; intro a H
      refine e_op H rfl rfl (by decide) (x_load H rfl rfl (l_cell Try.isAgg65 (DY.blk.at_ (i := 1) rfl))) ?_
      clear H a; intro a H
      refine e_op H rfl rfl (by decide) (x_move H rfl rfl) ?_
      clear H a; intro a H
      refine e_callq H rfl rfl (by decide) rfl rfl (Try.call56 _) (in_play DY KY (by omega) (by omega) (i := i) (by omega) hOp.bs (ow_cap hOp) (ow_le hOp)) ?_
      clear H a
      rintro e wn ⟨rfl, y2, r2, DY2, KY2, GY2, FY, hwy⟩
      have OZ2 := OZ.rcv DY.rv FY hwy
      have X2 := FY.ext X (own_ge DY)
      refine ⟨_, rfl, fun a H => ?_⟩
      refine e_op H rfl rfl (by decide) (x_binI H rfl rfl rfl (b_neq (b := false) (rfl))) ?_
      clear H a; intro a H
      refine e_nil (hR.out _ _ ?_)
      clear hR R
      refine hK14 _ _ ?_
      clear hK14 K14
      refine c_false H rfl ?_
      refine wp_skip ?_
      refine hK12 _ _ ?_
      clear hK12 K12
      refine e_region (fun R hR => ?_)
      refine e_op H rfl rfl (by decide) (x_binI H rfl rfl rfl (b_add (z := ((i + 1 : Nat) : Int)) (by rw [IntKind.wrap_i64]; omega))) ?_
      clear H a; intro a H
      refine e_op H rfl rfl (by decide) (x_move H rfl rfl) ?_
      clear H a; intro a H
      refine e_nil (hR.out _ _ ?_)
      clear hR R
      rw [← hza] at H
      refine ⟨cm - (i + 1), by omega, i + 1, y2, r2, by omega, rfl, H.sub ⟨rfl, rfl, rfl, rfl, rfl, rfl, trivial⟩, DY2, KY2, fun k => ?_, by rw [← hza] at OZ2; exact OZ2, X2⟩
      have GYk : gb r2.has k = (gb ry.has k || decide (k = i)) := GY2 k
      rw [GYk, GY k, ← Bool.decide_or, decide_eq_decide]
      omega
    · skip
      rw [hie] at GY
      clear OZ
      have DW := D.ext X
      refine wp_seq_k (fun K15 hK15 => ?_)
      refine e_region (fun R hR => ?_)
      refine e_op H rfl rfl (by decide) (x_binI H rfl rfl rfl (b_lss (b := false) (dec_f (by omega)))) ?_
      clear H a; intro a H
      refine e_nil (hR.out _ _ ?_)
      clear hR R
      refine hK15 _ _ ?_
      clear hK15 K15
      refine wp_seq_k (fun K16 hK16 => ?_)
      refine c_false H rfl ?_
      refine wp_exit ?_
      refine t_exit ?_
      refine t_exit ?_
      refine b_hit ?_
      clear hK16 K16
      refine hK8 _ _ ?_
      clear hK8 K8
      refine wp_seq_k (fun K17 hK17 => ?_)
      refine e_region (fun R hR => ?_)
      refine e_op H rfl rfl (by decide) (x_move H rfl rfl) ?_
      clear H a; intro a H
      refine e_op H rfl rfl (by decide) (x_nilCheck H rfl rfl) ?_
      clear H a; intro a H
      refine e_op H rfl rfl (by decide) (x_fieldAddr H rfl rfl (fa158_3 _ _)) ?_
      clear H a; intro a H
      refine e_op H rfl rfl (by decide) (x_load H rfl rfl (l_cell (v := .slice fa fb.length fc) Try.isAgg22 (DW.blk.at_ (i := 4) (by rw [← hvl]; rfl)))) ?_
      clear H a; intro a H
      refine e_op H rfl rfl (by decide) (x_builtin H rfl rfl (fun cs => len_sl Try.underlying22)) ?_
      clear H a; intro a H
      refine e_op H rfl rfl (by decide) (x_binI H rfl rfl rfl (b_add (z := ((fb.length + 64 : Nat) : Int)) (by rw [IntKind.wrap_i64]; omega))) ?_
      clear H a; intro a H
      refine e_op H rfl rfl (by decide) (x_binI H rfl rfl rfl (b_sub (z := ((fb.length + 63 : Nat) : Int)) (by rw [IntKind.wrap_i64]; omega))) ?_
      clear H a; intro a H
      refine e_op H rfl rfl (by decide) (x_binI H rfl rfl rfl (b_quo (z := (((fb.length + 63) / 64 : Nat) : Int)) (by decide) (by rw [Int.tdiv_eq_ediv_of_nonneg (by omega), IntKind.wrap_i64]; omega))) ?_
      clear H a; intro a H
      refine e_op H rfl rfl (by decide) (x_builtin H rfl rfl (fun cs => bi_max (z := (((chunksT fb.length) : Nat) : Int)) (by unfold chunksT; split <;> omega))) ?_
      clear H a; intro a H
      refine e_op H rfl rfl (by decide) (x_assign H rfl rfl) ?_
      clear H a; intro a H
      refine e_nil (hR.out _ _ ?_)
      clear hR R
      refine hK17 _ _ ?_
      clear hK17 K17
      refine wp_seq_k (fun K18 hK18 => ?_)
      refine e_region (fun R hR => ?_)
      refine e_op H rfl rfl (by decide) (x_move H rfl rfl) ?_
      clear H a; intro a H
      refine e_op H rfl rfl (by decide) (x_nilCheck H rfl rfl) ?_
      clear H a; intro a H
      refine e_op H rfl rfl (by decide) (x_fieldAddr H rfl rfl (fa158_3 _ _)) ?_
      clear H a; intro a H
      refine e_op H rfl rfl (by decide) (x_load H rfl rfl (l_cell (v := .slice xa fx.length xc) Try.isAgg22 (DY.blk.at_ (i := 4) (by rw [← hyl]; rfl)))) ?_
      clear H a; intro a H
      refine e_op H rfl rfl (by decide) (x_builtin H rfl rfl (fun cs => len_sl Try.underlying22)) ?_
      clear H a; intro a H
      refine e_op H rfl rfl (by decide) (x_binI H rfl rfl rfl (b_add (z := ((fx.length + 64 : Nat) : Int)) (by rw [IntKind.wrap_i64]; omega))) ?_
      clear H a; intro a H
      refine e_op H rfl rfl (by decide) (x_binI H rfl rfl rfl (b_sub (z := ((fx.length + 63 : Nat) : Int)) (by rw [IntKind.wrap_i64]; omega))) ?_
      clear H a; intro a H
      refine e_op H rfl rfl (by decide) (x_binI H rfl rfl rfl (b_quo (z := (((fx.length + 63) / 64 : Nat) : Int)) (by decide) (by rw [Int.tdiv_eq_ediv_of_nonneg (by omega), IntKind.wrap_i64]; omega))) ?_
      clear H a; intro a H
      refine e_op H rfl rfl (by decide) (x_builtin H rfl rfl (fun cs => bi_max (z := ((chunksT fx.length : Nat) : Int)) (by unfold chunksT; split <;> omega))) ?_
      clear H a; intro a H
      refine e_op H rfl rfl (by decide) (x_builtin H rfl rfl (fun cs => bi_min (z := ((cm : Nat) : Int)) (by rw [← hcm]; split <;> omega))) ?_
      clear H a; intro a H
      refine e_op H rfl rfl (by decide) (x_assign H rfl rfl) ?_
      clear H a; intro a H
      refine e_nil (hR.out _ _ ?_)
      clear hR R
      refine hK18 _ _ ?_
      clear hK18 K18
      refine wp_seq_k (fun K19 hK19 => ?_)
      obtain ⟨wd, hwd⟩ : ∃ x_, x_ = w.drew := ⟨_, rfl⟩
      have Ewd : Ext w wd := by rw [hwd]; exact (Ext.refl _).dr
      replace DY := DY.ext Ewd
      replace X := X.tr Ewd
      replace DW := DW.ext Ewd
      have HS : Blk wd gw 158 (wCells gs gr V) ∧ Blk wd yw 158 (wCells ys yr Y) := ⟨DW.blk, DY.blk⟩
      have hidy : ry.id = 9 := KY.id_
      have hacy := ackP_len ry.id ry.has (by omega)
      have hayl : (ackP ry.id ry.has).length ≤ 1000 := by unfold ackP; rw [tseal_len]; omega
      have hap := Snd.ack_put (⟨9, fb, noMarks⟩ : Snd) ry.id ry.has (by omega) KY.size (List.length_replicate ..)
      have hcc : (chunksT fb.length) = chunksT (⟨9, fb, noMarks⟩ : Snd).file.length := rfl
      have hcb := chunksT_pos fb.length
      have hbig : (chunksT fb.length) < cm → (⟨9, fb, noMarks⟩ : Snd).ack (ackP ry.id ry.has) = (2, (⟨9, fb, noMarks⟩ : Snd)) := fun h => hap.2.1 hidy ⟨(chunksT fb.length), Nat.le_refl _, by rw [GY]; exact decide_eq_true (by omega)⟩
      have hsml : cm ≤ (chunksT fb.length) → ((⟨9, fb, noMarks⟩ : Snd).ack (ackP ry.id ry.has)).1 = 0 ∧ (unm (gb ((⟨9, fb, noMarks⟩ : Snd).ack (ackP ry.id ry.has)).2.acked) (chunksT ((⟨9, fb, noMarks⟩ : Snd).ack (ackP ry.id ry.has)).2.file.length)).length = (chunksT fb.length) - cm := fun h => by
        obtain ⟨q1, q2, q3, q4, q5⟩ := hap.2.2 hidy (fun k hk => by rw [GY]; exact decide_eq_false (by simp only at hk; omega))
        refine ⟨q1, ?_⟩
        rw [q3]
        exact unm_below _ _ _ (fun k => by rw [q5, GY, gb_no, Bool.false_or])
      refine g_start (fun w' => Blk w' gw 158 (wCells gs gr V) ∧ Blk w' yw 158 (wCells ys yr Y)) (by kernel_rfl) (fun R hR => ?_)
      rw [← hwd]
      refine g_take 0 H rfl (wanted_none rfl) rfl (by decide) (by kernel_rfl) (by kernel_rfl) (by kernel_rfl) HS (fun w' hSw => (x_move H rfl rfl)) ?_
      clear H a; intro a H
      refine g_take 1 H rfl (wanted_none rfl) rfl (by decide) (by kernel_rfl) (by kernel_rfl) (by kernel_rfl) HS (fun w' hSw => (x_nilCheck H rfl rfl)) ?_
      clear H a; intro a H
      refine g_take 2 H rfl (wanted_none rfl) rfl (by decide) (by kernel_rfl) (by kernel_rfl) (by kernel_rfl) HS (fun w' hSw => (x_fieldAddr H rfl rfl (fa158_0 _ _))) ?_
      clear H a; intro a H
      refine g_take 3 H rfl (wanted_none rfl) rfl (by decide) (by kernel_rfl) (by kernel_rfl) (by kernel_rfl) HS (fun w' hSw => (x_load H rfl rfl (l_cell Try.isAgg64 (hSw.1.at_ (i := 0) rfl)))) ?_
      clear H a; intro a H
      refine g_take 4 H rfl (wanted_none rfl) rfl (by decide) (by kernel_rfl) (by kernel_rfl) (by kernel_rfl) HS (fun w' hSw => (x_move H rfl rfl)) ?_
      clear H a; intro a H
      refine g_take 5 H rfl (wanted_none rfl) rfl (by decide) (by kernel_rfl) (by kernel_rfl) (by kernel_rfl) HS (fun w' hSw => (x_nilCheck H rfl rfl)) ?_
      clear H a; intro a H
      refine g_take 6 H rfl (wanted_none rfl) rfl (by decide) (by kernel_rfl) (by kernel_rfl) (by kernel_rfl) HS (fun w' hSw => (x_fieldAddr H rfl rfl (fa158_1 _ _))) ?_
      clear H a; intro a H
      refine g_take 7 H rfl (wanted_none rfl) rfl (by decide) (by kernel_rfl) (by kernel_rfl) (by kernel_rfl) HS (fun w' hSw => (x_load H rfl rfl (l_cell Try.isAgg65 (hSw.2.at_ (i := 1) rfl)))) ?_
      clear H a; intro a H
      refine g_call 8 H rfl (by kernel_rfl) (wanted_none rfl) rfl (by decide) rfl rfl (Try.call57 _) (ack_any wx0.heap.size yr y1 ry wd DY.rv) ?_
      clear H a
      rintro e we ⟨ka, kc, rfl, OK, Ek⟩
      replace DY := DY.ext Ek
      replace X := X.tr Ek
      replace DW := DW.ext Ek
      have HSn : Blk we gw 158 (wCells gs gr V) ∧ Blk we yw 158 (wCells ys yr Y) := ⟨DW.blk, DY.blk⟩
      refine ⟨_, rfl, HSn, fun a H => ?_⟩
      replace HS := HSn
      clear HSn
      refine g_call 9 H rfl (by kernel_rfl) (wanted_none rfl) rfl (by decide) rfl rfl (Try.call53 _) (sack_any w1.heap.size gs V.vs (⟨9, fb, noMarks⟩ : Snd) ka _ kc (ackP ry.id ry.has) we DW.sn OK.bs (ow_cap OK) (ow_le OK) (by omega)) ?_
      clear H a
      rintro e wf ⟨rfl, Sa, Fa, hbad⟩
      obtain ⟨s3, hs3⟩ : ∃ s3, s3 = ((⟨9, fb, noMarks⟩ : Snd).ack (ackP ry.id ry.has)).2 := ⟨_, rfl⟩
      obtain ⟨e3, he3⟩ : ∃ e3, e3 = ((⟨9, fb, noMarks⟩ : Snd).ack (ackP ry.id ry.has)).1 := ⟨_, rfl⟩
      rw [← he3]
      rw [← hs3] at Sa
      have D3 := DW.snd Fa Sa (by rw [hs3]; exact (Snd.ack_same _ _).1) (by rw [hs3]; exact (Snd.ack_same _ _).2)
      have TY : Blk wf yw 158 (wCells ys yr Y) := DY.blk.frm Fa (by simp only [List.mem_singleton]; intro e; have := DY.low; have hgs := (D.sn.blk).lt; omega)
      have X3 : Ext w1 wf := Fa.ext (E.tr X) (by intro x hx; simp only [List.mem_singleton] at hx; rw [hx]; exact DW.sn.low)
      have HSn : Blk wf gw 158 (wCells gs gr V) ∧ Blk wf yw 158 (wCells ys yr Y) := ⟨D3.blk, TY⟩
      refine ⟨_, rfl, HSn, fun a H => ?_⟩
      replace HS := HSn
      clear HSn
      refine g_take 10 H rfl (wanted_none rfl) rfl (by decide) (by kernel_rfl) (by kernel_rfl) (by kernel_rfl) HS (fun w' hSw => (x_assign H rfl rfl)) ?_
      clear H a; intro a H
      refine g_done (by kernel_rfl) (hR.out _ _ ?_)
      clear hR R
      refine hK19 _ _ ?_
      clear hK19 K19
      refine wp_seq_k (fun K20 hK20 => ?_)
      refine wp_seq_k (fun K21 hK21 => ?_)
      refine Code.wp_mono (Q := fun e a w => e = Exit.normal ∧ Has a 136 [(2, .int .u8 (x : Int)), (112, .bool false)] ∧ w = wf) (fun e a w hM => ?_) ?_
      · skip
        clear H
        obtain ⟨rfl, H, hww⟩ := hM
        rw [hww]
        clear hww w
        refine hK21 _ _ ?_
        clear hK21 K21
        refine c_false H rfl ?_
        refine wp_skip ?_
        refine hK20 _ _ ?_
        clear hK20 K20
        refine wp_seq_k (fun K22 hK22 => ?_)
        refine Code.wp_mono (Q := fun e a w => e = Exit.normal ∧ Has a 136 [(2, .int .u8 (x : Int)), (15, .int .i64 ((if x % 3 = 0 then 0 else 3 : Nat) : Int))] ∧ Ext wf w) (fun e a w hM => ?_) ?_
        · skip
          clear H
          obtain ⟨rfl, H, E9⟩ := hM
          refine hK22 _ _ ?_
          clear hK22 K22
          refine wp_seq_k (fun K23 hK23 => ?_)
          obtain ⟨wq, hwq⟩ : ∃ x, x = w := ⟨_, rfl⟩
          rw [← hwq] at E9 ⊢
          clear hwq w
          refine Code.wp_mono (Q := fun e a w => e = Exit.normal ∧ Has a 136 [(6, .bool true)] ∧ w = wq) (fun e a w hM => ?_) ?_
          · skip
            clear H
            obtain ⟨rfl, H, hww⟩ := hM
            rw [hww]
            clear hww w
            refine hK23 _ _ ?_
            clear hK23 K23
            refine wp_ret ?_
            exact ret1 H rfl rfl ⟨rfl, E01.tr (X3.tr E9)⟩
          · skip
            by_cases hx3 : x % 3 = 0
            · skip
              rw [if_pos hx3] at H
              refine e_region (fun R hR => ?_)
              refine e_op H rfl rfl (by decide) (x_move H rfl rfl) ?_
              clear H a; intro a H
              refine e_op H rfl rfl (by decide) (x_binI H rfl rfl rfl (b_eql (b := true) (rfl))) ?_
              clear H a; intro a H
              refine e_op H rfl rfl (by decide) (x_move H rfl rfl) ?_
              clear H a; intro a H
              refine e_op H rfl rfl (by decide) (x_binI H rfl rfl rfl (b_rem (z := ((x % 3 : Nat) : Int)) (by decide) (by rw [Int.tmod_eq_emod_of_nonneg (by omega)]; omega))) ?_
              clear H a; intro a H
              refine e_op H rfl rfl (by decide) (x_binI H rfl rfl rfl (b_eql (b := true) (beq_t (by omega)))) ?_
              clear H a; intro a H
              refine e_op H rfl rfl (by decide) (x_bin H rfl rfl rfl (by rw [eqGuard_at_bool]; rfl) (b_eqlB (c := true) Try.underlying4 rfl)) ?_
              clear H a; intro a H
              refine e_op H rfl rfl (by decide) (x_move H rfl rfl) ?_
              clear H a; intro a H
              refine e_opg H (wanted_true H rfl rfl rfl rfl) rfl (by decide) (x_move H rfl rfl) ?_
              clear H a; intro a H
              refine e_opg H (wanted_true H rfl rfl rfl rfl) rfl (by decide) (x_binI H rfl rfl rfl (b_eql (b := true) (rfl))) ?_
              clear H a; intro a H
              refine e_opg H (wanted_true H rfl rfl rfl rfl) rfl (by decide) (x_move H rfl rfl) ?_
              clear H a; intro a H
              refine e_skip H (wanted_false H rfl rfl rfl rfl) rfl (by decide) ?_
              clear H a; intro a H
              refine e_skip H (wanted_false H rfl rfl rfl rfl) rfl (by decide) ?_
              clear H a; intro a H
              refine e_opg H (wanted_true H rfl rfl rfl rfl) rfl (by decide) (x_pickT H rfl rfl rfl) ?_
              clear H a; intro a H
              refine e_op H rfl rfl (by decide) (x_pickT H rfl rfl rfl) ?_
              clear H a; intro a H
              refine e_op H rfl rfl (by decide) (x_assign H rfl rfl) ?_
              clear H a; intro a H
              refine e_nil (hR.out _ _ ?_)
              clear hR R
              exact ⟨rfl, H.sub ⟨rfl, trivial⟩, rfl⟩
            · skip
              rw [if_neg hx3] at H
              refine e_region (fun R hR => ?_)
              refine e_op H rfl rfl (by decide) (x_move H rfl rfl) ?_
              clear H a; intro a H
              refine e_op H rfl rfl (by decide) (x_binI H rfl rfl rfl (b_eql (b := false) (rfl))) ?_
              clear H a; intro a H
              refine e_op H rfl rfl (by decide) (x_move H rfl rfl) ?_
              clear H a; intro a H
              refine e_op H rfl rfl (by decide) (x_binI H rfl rfl rfl (b_rem (z := ((x % 3 : Nat) : Int)) (by decide) (by rw [Int.tmod_eq_emod_of_nonneg (by omega)]; omega))) ?_
              clear H a; intro a H
              refine e_op H rfl rfl (by decide) (x_binI H rfl rfl rfl (b_eql (b := false) (beq_f (by omega)))) ?_
              clear H a; intro a H
              refine e_op H rfl rfl (by decide) (x_bin H rfl rfl rfl (by rw [eqGuard_at_bool]; rfl) (b_eqlB (c := true) Try.underlying4 rfl)) ?_
              clear H a; intro a H
              refine e_op H rfl rfl (by decide) (x_move H rfl rfl) ?_
              clear H a; intro a H
              refine e_opg H (wanted_true H rfl rfl rfl rfl) rfl (by decide) (x_move H rfl rfl) ?_
              clear H a; intro a H
              refine e_opg H (wanted_true H rfl rfl rfl rfl) rfl (by decide) (x_binI H rfl rfl rfl (b_eql (b := false) (rfl))) ?_
              clear H a; intro a H
              refine e_opg H (wanted_true H rfl rfl rfl rfl) rfl (by decide) (x_move H rfl rfl) ?_
              clear H a; intro a H
              refine e_opg H (wanted_true H rfl rfl rfl rfl) rfl (by decide) (x_move H rfl rfl) ?_
              clear H a; intro a H
              refine e_opg H (wanted_true H rfl rfl rfl rfl) rfl (by decide) (x_binI H rfl rfl rfl (b_eql (b := true) (rfl))) ?_
              clear H a; intro a H
              refine e_opg H (wanted_true H rfl rfl rfl rfl) rfl (by decide) (x_pickF H rfl rfl rfl) ?_
              clear H a; intro a H
              refine e_op H rfl rfl (by decide) (x_pickT H rfl rfl rfl) ?_
              clear H a; intro a H
              refine e_op H rfl rfl (by decide) (x_assign H rfl rfl) ?_
              clear H a; intro a H
              refine e_nil (hR.out _ _ ?_)
              clear hR R
              exact ⟨rfl, H.sub ⟨rfl, trivial⟩, rfl⟩
        · skip
          by_cases hx3 : x % 3 = 0
          · skip
            rw [if_pos hx3]
            refine e_region (fun R hR => ?_)
            refine e_op H rfl rfl (by decide) (x_move H rfl rfl) ?_
            clear H a; intro a H
            refine e_op H rfl rfl (by decide) (x_binI H rfl rfl rfl (b_rem (z := ((x % 3 : Nat) : Int)) (by decide) (by rw [Int.tmod_eq_emod_of_nonneg (by omega)]; omega))) ?_
            clear H a; intro a H
            refine e_op H rfl rfl (by decide) (x_conv H rfl rfl (c_int (z := ((x % 3 : Nat) : Int)) Try.underlying5 Try.underlying3 (by rw [IntKind.wrap_i64]; omega))) ?_
            clear H a; intro a H
            refine e_op H rfl rfl (by decide) (x_binI H rfl rfl rfl (b_add (z := ((65535 + x % 3 : Nat) : Int)) (by rw [IntKind.wrap_i64]; omega))) ?_
            clear H a; intro a H
            refine e_op H rfl rfl (by decide) (x_makeSlice H rfl rfl rfl (mk_u8 (n := (65535 + x % 3)) (c := (65535 + x % 3)) rfl rfl (by omega) (by omega))) ?_
            clear H a; intro a H
            have OZr := Ow.fresh wf wf.heap.size (65535 + x % 3) (Nat.le_refl _) (by omega)
            have E9 := (Ext.refl wf).al (.cells (u8s (List.replicate (65535 + x % 3) 0)).toArray 5)
            obtain ⟨g9, hg9⟩ : ∃ g, g = wf.heap.size := ⟨_, rfl⟩
            rw [← hg9] at H
            have OZ9 : Ow (wf.alloc (.cells (u8s (List.replicate (65535 + x % 3) 0)).toArray 5)) wf.heap.size (some ⟨g9, 0, none⟩) (65535 + x % 3) (65535 + x % 3) (List.replicate (65535 + x % 3) 0) := by rw [hg9]; exact OZr
            clear OZr
            generalize wf.alloc (.cells (u8s (List.replicate (65535 + x % 3) 0)).toArray 5) = w9 at *
            refine e_callq H rfl rfl (by decide) rfl rfl (Try.call99 _) (newSender_any 1 (some ⟨g9, 0, none⟩) (65535 + x % 3) (65535 + x % 3) (List.replicate (65535 + x % 3) 0) w9 OZ9.bs (fun h => by cases h) (by omega) (by omega)) ?_
            clear H a
            rintro e wz ⟨gq, vq, rfl, _, _, Ez⟩
            refine ⟨_, rfl, fun a H => ?_⟩
            replace E9 := E9.tr Ez
            refine e_op H rfl rfl (by decide) (x_move H rfl rfl) ?_
            clear H a; intro a H
            refine e_op H rfl rfl (by decide) (x_extract H rfl rfl (v := .pointer (some ⟨gq, 0, none⟩)) rfl) ?_
            clear H a; intro a H
            refine e_op H rfl rfl (by decide) (x_extract H rfl rfl (v := .int .i64 0) rfl) ?_
            clear H a; intro a H
            refine e_op H rfl rfl (by decide) (x_assign H rfl rfl) ?_
            clear H a; intro a H
            refine e_op H rfl rfl (by decide) (x_assign H rfl rfl) ?_
            clear H a; intro a H
            refine e_nil (hR.out _ _ ?_)
            clear hR R
            exact ⟨rfl, H.sub ⟨rfl, rfl, trivial⟩, E9⟩
          · skip
            rw [if_neg hx3]
            refine e_region (fun R hR => ?_)
            refine e_op H rfl rfl (by decide) (x_move H rfl rfl) ?_
            clear H a; intro a H
            refine e_op H rfl rfl (by decide) (x_binI H rfl rfl rfl (b_rem (z := ((x % 3 : Nat) : Int)) (by decide) (by rw [Int.tmod_eq_emod_of_nonneg (by omega)]; omega))) ?_
            clear H a; intro a H
            refine e_op H rfl rfl (by decide) (x_conv H rfl rfl (c_int (z := ((x % 3 : Nat) : Int)) Try.underlying5 Try.underlying3 (by rw [IntKind.wrap_i64]; omega))) ?_
            clear H a; intro a H
            refine e_op H rfl rfl (by decide) (x_binI H rfl rfl rfl (b_add (z := ((65535 + x % 3 : Nat) : Int)) (by rw [IntKind.wrap_i64]; omega))) ?_
            clear H a; intro a H
            refine e_op H rfl rfl (by decide) (x_makeSlice H rfl rfl rfl (mk_u8 (n := (65535 + x % 3)) (c := (65535 + x % 3)) rfl rfl (by omega) (by omega))) ?_
            clear H a; intro a H
            have OZr := Ow.fresh wf wf.heap.size (65535 + x % 3) (Nat.le_refl _) (by omega)
            have E9 := (Ext.refl wf).al (.cells (u8s (List.replicate (65535 + x % 3) 0)).toArray 5)
            obtain ⟨g9, hg9⟩ : ∃ g, g = wf.heap.size := ⟨_, rfl⟩
            rw [← hg9] at H
            have OZ9 : Ow (wf.alloc (.cells (u8s (List.replicate (65535 + x % 3) 0)).toArray 5)) wf.heap.size (some ⟨g9, 0, none⟩) (65535 + x % 3) (65535 + x % 3) (List.replicate (65535 + x % 3) 0) := by rw [hg9]; exact OZr
            clear OZr
            generalize wf.alloc (.cells (u8s (List.replicate (65535 + x % 3) 0)).toArray 5) = w9 at *
            refine e_callq H rfl rfl (by decide) rfl rfl (Try.call99 _) (newSender_big 1 (some ⟨g9, 0, none⟩) (65535 + x % 3) (65535 + x % 3) w9 (by omega)) ?_
            clear H a
            rintro e wy ⟨rfl, hwy⟩
            rw [hwy]
            refine ⟨_, rfl, fun a H => ?_⟩
            refine e_op H rfl rfl (by decide) (x_move H rfl rfl) ?_
            clear H a; intro a H
            refine e_op H rfl rfl (by decide) (x_extract H rfl rfl (v := .pointer none) rfl) ?_
            clear H a; intro a H
            refine e_op H rfl rfl (by decide) (x_extract H rfl rfl (v := .int .i64 3) rfl) ?_
            clear H a; intro a H
            refine e_op H rfl rfl (by decide) (x_assign H rfl rfl) ?_
            clear H a; intro a H
            refine e_op H rfl rfl (by decide) (x_assign H rfl rfl) ?_
            clear H a; intro a H
            refine e_nil (hR.out _ _ ?_)
            clear hR R
            exact ⟨rfl, H.sub ⟨rfl, rfl, trivial⟩, E9⟩
      · skip
        by_cases hbg : (chunksT fb.length) < cm
        · skip
          have hb2 := hbig hbg
          have he2 : e3 = 2 := by rw [he3, hb2]
          have hul : (unm (gb s3.acked) (chunksT s3.file.length)).length = (chunksT fb.length) := by
            rw [hs3, hb2]
            show (unm (gb noMarks) (chunksT fb.length)).length = _
            rw [unm_none, List.length_range]
          refine e_region (fun R hR => ?_)
          refine e_op H rfl rfl (by decide) (x_move H rfl rfl) ?_
          clear H a; intro a H
          refine e_op H rfl rfl (by decide) (x_move H rfl rfl) ?_
          clear H a; intro a H
          refine e_op H rfl rfl (by decide) (x_binI H rfl rfl rfl (b_gtr (b := true) (dec_t (by omega)))) ?_
          clear H a; intro a H
          refine e_op H rfl rfl (by decide) (x_move H rfl rfl) ?_
          clear H a; intro a H
          refine e_opg H (wanted_true H rfl rfl rfl rfl) rfl (by decide) (x_move H rfl rfl) ?_
          clear H a; intro a H
          refine e_opg H (wanted_true H rfl rfl rfl rfl) rfl (by decide) (x_binI H rfl rfl rfl (b_neq (b := false) (bne_f (by rw [he2]; rfl)))) ?_
          clear H a; intro a H
          refine e_opg H (wanted_true H rfl rfl rfl rfl) rfl (by decide) (x_move H rfl rfl) ?_
          clear H a; intro a H
          refine e_opg H (wanted_true H rfl rfl rfl rfl) rfl (by decide) (x_move H rfl rfl) ?_
          clear H a; intro a H
          refine e_opg H (wanted_true H rfl rfl rfl rfl) rfl (by decide) (x_nilCheck H rfl rfl) ?_
          clear H a; intro a H
          refine e_opg H (wanted_true H rfl rfl rfl rfl) rfl (by decide) (x_fieldAddr H rfl rfl (fa158_0 _ _)) ?_
          clear H a; intro a H
          refine e_opg H (wanted_true H rfl rfl rfl rfl) rfl (by decide) (x_load H rfl rfl (l_cell Try.isAgg64 (D3.blk.at_ (i := 0) rfl))) ?_
          clear H a; intro a H
          refine e_callqg H (wanted_true H rfl rfl rfl rfl) rfl (by decide) rfl rfl (Try.call55 _) (left_any w1.heap.size gs V.vs s3 wf D3.sn) ?_
          clear H a
          rintro e wy ⟨rfl, hwy⟩
          rw [hwy]
          refine ⟨_, rfl, fun a H => ?_⟩
          refine e_opg H (wanted_true H rfl rfl rfl rfl) rfl (by decide) (x_move H rfl rfl) ?_
          clear H a; intro a H
          refine e_opg H (wanted_true H rfl rfl rfl rfl) rfl (by decide) (x_binI H rfl rfl rfl (b_neq (b := false) (bne_f (by rw [hul])))) ?_
          clear H a; intro a H
          refine e_opg H (wanted_true H rfl rfl rfl rfl) rfl (by decide) (x_pickF H rfl rfl rfl) ?_
          clear H a; intro a H
          refine e_op H rfl rfl (by decide) (x_pickT H rfl rfl rfl) ?_
          clear H a; intro a H
          refine e_op H rfl rfl (by decide) (x_move H rfl rfl) ?_
          clear H a; intro a H
          refine e_opg H (wanted_true H rfl rfl rfl rfl) rfl (by decide) (x_move H rfl rfl) ?_
          clear H a; intro a H
          refine e_opg H (wanted_true H rfl rfl rfl rfl) rfl (by decide) (x_move H rfl rfl) ?_
          clear H a; intro a H
          refine e_opg H (wanted_true H rfl rfl rfl rfl) rfl (by decide) (x_binI H rfl rfl rfl (b_leq (b := false) (dec_f (by omega)))) ?_
          clear H a; intro a H
          refine e_opg H (wanted_true H rfl rfl rfl rfl) rfl (by decide) (x_move H rfl rfl) ?_
          clear H a; intro a H
          refine e_skip H (wanted_false H rfl rfl rfl rfl) rfl (by decide) ?_
          clear H a; intro a H
          refine e_skip H (wanted_false H rfl rfl rfl rfl) rfl (by decide) ?_
          clear H a; intro a H
          refine e_skip H (wanted_false H rfl rfl rfl rfl) rfl (by decide) ?_
          clear H a; intro a H
          refine e_skip H (wanted_undef H rfl rfl rfl rfl) rfl (by decide) ?_
          clear H a; intro a H
          refine e_skip H (wanted_undef H rfl rfl rfl rfl) rfl (by decide) ?_
          clear H a; intro a H
          refine e_skip H (wanted_undef H rfl rfl rfl rfl) rfl (by decide) ?_
          clear H a; intro a H
          refine e_skip H (wanted_undef H rfl rfl rfl rfl) rfl (by decide) ?_
          clear H a; intro a H
          refine e_skip H (wanted_undef H rfl rfl rfl rfl) rfl (by decide) ?_
          clear H a; intro a H
          refine e_skip H (wanted_undef H rfl rfl rfl rfl) rfl (by decide) ?_
          clear H a; intro a H
          refine e_skip H (wanted_undef H rfl rfl rfl rfl) rfl (by decide) ?_
          clear H a; intro a H
          refine e_skip H (wanted_undef H rfl rfl rfl rfl) rfl (by decide) ?_
          clear H a; intro a H
          refine e_skip H (wanted_undef H rfl rfl rfl rfl) rfl (by decide) ?_
          clear H a; intro a H
          refine e_skip H (wanted_false H rfl rfl rfl rfl) rfl (by decide) ?_
          clear H a; intro a H
          refine e_opg H (wanted_true H rfl rfl rfl rfl) rfl (by decide) (x_pickF H rfl rfl rfl) ?_
          clear H a; intro a H
          refine e_op H rfl rfl (by decide) (x_pickF H rfl rfl rfl) ?_
          clear H a; intro a H
          refine e_nil (hR.out _ _ ?_)
          clear hR R
          exact ⟨rfl, H.sub ⟨rfl, rfl, trivial⟩, rfl⟩
        · skip
          have hb2 := hsml (by omega)
          have he2 : e3 = 0 := by rw [he3, hb2.1]
          have hul : (unm (gb s3.acked) (chunksT s3.file.length)).length = (chunksT fb.length) - cm := by rw [hs3]; exact hb2.2
          refine e_region (fun R hR => ?_)
          refine e_op H rfl rfl (by decide) (x_move H rfl rfl) ?_
          clear H a; intro a H
          refine e_op H rfl rfl (by decide) (x_move H rfl rfl) ?_
          clear H a; intro a H
          refine e_op H rfl rfl (by decide) (x_binI H rfl rfl rfl (b_gtr (b := false) (dec_f (by omega)))) ?_
          clear H a; intro a H
          refine e_op H rfl rfl (by decide) (x_move H rfl rfl) ?_
          clear H a; intro a H
          refine e_skip H (wanted_false H rfl rfl rfl rfl) rfl (by decide) ?_
          clear H a; intro a H
          refine e_skip H (wanted_false H rfl rfl rfl rfl) rfl (by decide) ?_
          clear H a; intro a H
          refine e_skip H (wanted_false H rfl rfl rfl rfl) rfl (by decide) ?_
          clear H a; intro a H
          refine e_skip H (wanted_undef H rfl rfl rfl rfl) rfl (by decide) ?_
          clear H a; intro a H
          refine e_skip H (wanted_undef H rfl rfl rfl rfl) rfl (by decide) ?_
          clear H a; intro a H
          refine e_skip H (wanted_undef H rfl rfl rfl rfl) rfl (by decide) ?_
          clear H a; intro a H
          refine e_skip H (wanted_undef H rfl rfl rfl rfl) rfl (by decide) ?_
          clear H a; intro a H
          refine e_skip H (wanted_undef H rfl rfl rfl rfl) rfl (by decide) ?_
          clear H a; intro a H
          refine e_skip H (wanted_undef H rfl rfl rfl rfl) rfl (by decide) ?_
          clear H a; intro a H
          refine e_skip H (wanted_undef H rfl rfl rfl rfl) rfl (by decide) ?_
          clear H a; intro a H
          refine e_skip H (wanted_false H rfl rfl rfl rfl) rfl (by decide) ?_
          clear H a; intro a H
          refine e_op H rfl rfl (by decide) (x_pickF H rfl rfl rfl) ?_
          clear H a; intro a H
          refine e_op H rfl rfl (by decide) (x_move H rfl rfl) ?_
          clear H a; intro a H
          refine e_opg H (wanted_true H rfl rfl rfl rfl) rfl (by decide) (x_move H rfl rfl) ?_
          clear H a; intro a H
          refine e_opg H (wanted_true H rfl rfl rfl rfl) rfl (by decide) (x_move H rfl rfl) ?_
          clear H a; intro a H
          refine e_opg H (wanted_true H rfl rfl rfl rfl) rfl (by decide) (x_binI H rfl rfl rfl (b_leq (b := true) (dec_t (by omega)))) ?_
          clear H a; intro a H
          refine e_opg H (wanted_true H rfl rfl rfl rfl) rfl (by decide) (x_move H rfl rfl) ?_
          clear H a; intro a H
          refine e_opg H (wanted_true H rfl rfl rfl rfl) rfl (by decide) (x_move H rfl rfl) ?_
          clear H a; intro a H
          refine e_opg H (wanted_true H rfl rfl rfl rfl) rfl (by decide) (x_binI H rfl rfl rfl (b_neq (b := false) (bne_f (by rw [he2]; rfl)))) ?_
          clear H a; intro a H
          refine e_opg H (wanted_true H rfl rfl rfl rfl) rfl (by decide) (x_move H rfl rfl) ?_
          clear H a; intro a H
          refine e_opg H (wanted_true H rfl rfl rfl rfl) rfl (by decide) (x_move H rfl rfl) ?_
          clear H a; intro a H
          refine e_opg H (wanted_true H rfl rfl rfl rfl) rfl (by decide) (x_nilCheck H rfl rfl) ?_
          clear H a; intro a H
          refine e_opg H (wanted_true H rfl rfl rfl rfl) rfl (by decide) (x_fieldAddr H rfl rfl (fa158_0 _ _)) ?_
          clear H a; intro a H
          refine e_opg H (wanted_true H rfl rfl rfl rfl) rfl (by decide) (x_load H rfl rfl (l_cell Try.isAgg64 (D3.blk.at_ (i := 0) rfl))) ?_
          clear H a; intro a H
          refine e_callqg H (wanted_true H rfl rfl rfl rfl) rfl (by decide) rfl rfl (Try.call55 _) (left_any w1.heap.size gs V.vs s3 wf D3.sn) ?_
          clear H a
          rintro e wy ⟨rfl, hwy⟩
          rw [hwy]
          refine ⟨_, rfl, fun a H => ?_⟩
          refine e_opg H (wanted_true H rfl rfl rfl rfl) rfl (by decide) (x_move H rfl rfl) ?_
          clear H a; intro a H
          refine e_opg H (wanted_true H rfl rfl rfl rfl) rfl (by decide) (x_move H rfl rfl) ?_
          clear H a; intro a H
          refine e_opg H (wanted_true H rfl rfl rfl rfl) rfl (by decide) (x_binI H rfl rfl rfl (b_sub (z := (((chunksT fb.length) - cm : Nat) : Int)) (by rw [IntKind.wrap_i64]; omega))) ?_
          clear H a; intro a H
          refine e_opg H (wanted_true H rfl rfl rfl rfl) rfl (by decide) (x_binI H rfl rfl rfl (b_neq (b := false) (bne_f (by rw [hul])))) ?_
          clear H a; intro a H
          refine e_opg H (wanted_true H rfl rfl rfl rfl) rfl (by decide) (x_pickF H rfl rfl rfl) ?_
          clear H a; intro a H
          refine e_opg H (wanted_true H rfl rfl rfl rfl) rfl (by decide) (x_pickT H rfl rfl rfl) ?_
          clear H a; intro a H
          refine e_op H rfl rfl (by decide) (x_pickF H rfl rfl rfl) ?_
          clear H a; intro a H
          refine e_nil (hR.out _ _ ?_)
          clear hR R
          exact ⟨rfl, H.sub ⟨rfl, rfl, trivial⟩, rfl⟩
end Go.Proofs.Ytknllmcpogoeoaa
