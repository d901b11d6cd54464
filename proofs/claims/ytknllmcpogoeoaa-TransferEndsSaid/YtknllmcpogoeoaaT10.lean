/- A sender takes an acknowledgement: walked. -/
import Derived.Test.YtknllmcpogoeoaaT9
namespace Go.Proofs.Ytknllmcpogoeoaa
open Go.RowKit
set_option linter.unusedVariables false
set_option linter.unusedSimpArgs false
set_option maxRecDepth 100000
theorem akC_any (g q : Nat) (o : Opn) (w : World) (R : Rd w g q o.left 0) : Calls Try.prog 79 #[.pointer (some ⟨g, 0, none⟩), .int .i64 128] w (RbPost (akC o) g q w) := rBytes_any g q o.left 0 128 w R (by omega) (by omega)
theorem akC_len (o : Opn) : (akC o).body.length ≤ 128 := by
  have := rsBytes_len o.left 0 128 (by omega)
  unfold akC
  omega
def badAck (c : RSB) : Bool := decide (rsEnd c.left c.err ≠ 0) || (decide (c.body ≠ []) && decide (nn c.body (c.body.length - 1) = 0))
theorem Snd.ack_bad {s : Snd} {l : List UInt8} (h0 : (opn l 2).err = 0) (h : badAck (akC (opn l 2)) = true) : s.ack l = (6, s) := by
  unfold badAck at h
  unfold Snd.ack
  rw [if_neg (by simp [h0])]
  rw [Bool.or_eq_true, Bool.and_eq_true, decide_eq_true_eq, decide_eq_true_eq, decide_eq_true_eq] at h
  by_cases h1 : rsEnd (akC (opn l 2)).left (akC (opn l 2)).err ≠ 0
  · rw [if_pos h1]
  · rw [if_neg h1, if_pos (h.resolve_left h1)]
theorem Snd.ack_good {s : Snd} {l : List UInt8} (h0 : (opn l 2).err = 0) (h : badAck (akC (opn l 2)) = false) : s.ack l = if (opn l 2).id ≠ s.id then (13, s) else
    if marked (akC (opn l 2)).body ≠ [] ∧ chunksT s.file.length ≤ lastN (marked (akC (opn l 2)).body) then (2, s) else (0, ⟨s.id, s.file, setAll s.acked (marked (akC (opn l 2)).body)⟩) := by
  unfold badAck at h
  rw [Bool.or_eq_false_iff, decide_eq_false_iff_not, Bool.and_eq_false_iff, decide_eq_false_iff_not, decide_eq_false_iff_not] at h
  conv => lhs; unfold Snd.ack
  rw [if_neg (by simp [h0]), if_neg h.1, if_neg]
  rintro ⟨h1, h2⟩
  rcases h.2 with h3 | h3
  · exact h3 h1
  · exact h3 h2
theorem sack_any (B g : Nat) (v : Value) (s : Snd) (ad : Option Addr) (n c : Nat) (l : List UInt8) (w0 : World) (R0 : Sn w0 B g v s) (hb : Bs w0 ad n l) (hz : ad = none → c = 0) (hnc : n ≤ c) (hn : n ≤ 140737488351232) :
    Calls Try.prog 53 #[.pointer (some ⟨g, 0, none⟩), .slice ad n c] w0 fun e w' => e = .returned (.int .i64 ((s.ack l).1 : Int)) ∧ Sn w' B g v (s.ack l).2 ∧ Frm [g] w0 w' ∧ ((s.ack l).1 ≠ 0 → Ext w0 w') := by
  obtain ⟨fa, fc, rfl, hO⟩ := R0.file
  have hn1 := chunks_le R0.flt
  have hflt := R0.flt
  have hlen := R0.len
  have hcb := akC_len (opn l 2)
  have hgl := R0.blk.lt
  by_cases ho : (opn l 2).err ≠ 0
  · skip
    refine calls_has (args := [.pointer (some ⟨g, 0, none⟩), .slice ad n c]) Try.func53 rfl Try.ntmps53 (Nat.le_of_ble_eq_true rfl) (fun a H => ?_)
    simp only [argl, Nat.reduceAdd] at H
    refine wp_seq_k (fun K1 hK1 => ?_)
    refine e_region (fun R hR => ?_)
    refine e_op H rfl rfl (by decide) (x_assign H rfl rfl) ?_
    clear H a; intro a H
    refine e_nil (hR.out _ _ ?_)
    clear hR R
    refine hK1 _ _ ?_
    clear hK1 K1
    refine wp_seq_k (fun K2 hK2 => ?_)
    refine wp_seq_k (fun K3 hK3 => ?_)
    refine e_region (fun R hR => ?_)
    refine e_op H rfl rfl (by decide) (x_move H rfl rfl) ?_
    clear H a; intro a H
    refine e_op H rfl rfl (by decide) (x_bin H rfl rfl rfl (by rw [eqGuard_at_pointer]; rfl) (b_pnil (c := false) Try.underlying64 rfl)) ?_
    clear H a; intro a H
    refine e_nil (hR.out _ _ ?_)
    clear hR R
    refine hK3 _ _ ?_
    clear hK3 K3
    refine c_false H rfl ?_
    refine wp_skip ?_
    refine hK2 _ _ ?_
    clear hK2 K2
    refine wp_seq_k (fun K4 hK4 => ?_)
    refine e_region (fun R hR => ?_)
    refine e_op H rfl rfl (by decide) (x_move H rfl rfl) ?_
    clear H a; intro a H
    refine e_callq H rfl rfl (by decide) rfl rfl (Try.call112 _) (open_any ad n c l 2 w0 hb hz hnc hn) ?_
    clear H a
    rintro e w1 ⟨E1, hbad, _⟩
    obtain rfl := hbad ho
    refine ⟨_, rfl, fun a H => ?_⟩
    refine e_op H rfl rfl (by decide) (x_move H rfl rfl) ?_
    clear H a; intro a H
    refine e_op H rfl rfl (by decide) (x_extract H rfl rfl rfl) ?_
    clear H a; intro a H
    refine e_op H rfl rfl (by decide) (x_extract H rfl rfl rfl) ?_
    clear H a; intro a H
    refine e_op H rfl rfl (by decide) (x_extract H rfl rfl rfl) ?_
    clear H a; intro a H
    refine e_op H rfl rfl (by decide) (x_assign H rfl rfl) ?_
    clear H a; intro a H
    refine e_op H rfl rfl (by decide) (x_assign H rfl rfl) ?_
    clear H a; intro a H
    refine e_op H rfl rfl (by decide) (x_assign H rfl rfl) ?_
    clear H a; intro a H
    refine e_nil (hR.out _ _ ?_)
    clear hR R
    refine hK4 _ _ ?_
    clear hK4 K4
    refine wp_seq_k (fun K5 hK5 => ?_)
    refine wp_seq_k (fun K6 hK6 => ?_)
    refine e_region (fun R hR => ?_)
    refine e_op H rfl rfl (by decide) (x_move H rfl rfl) ?_
    clear H a; intro a H
    refine e_op H rfl rfl (by decide) (x_binI H rfl rfl rfl (b_neq (b := true) (bne_t (by omega)))) ?_
    clear H a; intro a H
    refine e_nil (hR.out _ _ ?_)
    clear hR R
    refine hK6 _ _ ?_
    clear hK6 K6
    refine c_true H rfl ?_
    refine wp_seq_k (fun K7 hK7 => ?_)
    refine e_region (fun R hR => ?_)
    refine e_op H rfl rfl (by decide) (x_move H rfl rfl) ?_
    clear H a; intro a H
    refine e_op H rfl rfl (by decide) (x_assign H rfl rfl) ?_
    clear H a; intro a H
    refine e_nil (hR.out _ _ ?_)
    clear hR R
    refine hK7 _ _ ?_
    clear hK7 K7
    refine wp_ret ?_
    refine t_ret ?_
    have hs : s.ack l = ((opn l 2).err, s) := by unfold Snd.ack; rw [if_pos ho]
    rw [hs]
    exact ret1 H rfl rfl ⟨rfl, R0.ext E1, E1.frm, fun _ => E1⟩
  · replace ho : (opn l 2).err = 0 := by omega
    refine calls_has (args := [.pointer (some ⟨g, 0, none⟩), .slice ad n c]) Try.func53 rfl Try.ntmps53 (Nat.le_of_ble_eq_true rfl) (fun a H => ?_)
    simp only [argl, Nat.reduceAdd] at H
    refine wp_seq_k (fun K1 hK1 => ?_)
    refine e_region (fun R hR => ?_)
    refine e_op H rfl rfl (by decide) (x_assign H rfl rfl) ?_
    clear H a; intro a H
    refine e_nil (hR.out _ _ ?_)
    clear hR R
    refine hK1 _ _ ?_
    clear hK1 K1
    refine wp_seq_k (fun K2 hK2 => ?_)
    refine wp_seq_k (fun K3 hK3 => ?_)
    refine e_region (fun R hR => ?_)
    refine e_op H rfl rfl (by decide) (x_move H rfl rfl) ?_
    clear H a; intro a H
    refine e_op H rfl rfl (by decide) (x_bin H rfl rfl rfl (by rw [eqGuard_at_pointer]; rfl) (b_pnil (c := false) Try.underlying64 rfl)) ?_
    clear H a; intro a H
    refine e_nil (hR.out _ _ ?_)
    clear hR R
    refine hK3 _ _ ?_
    clear hK3 K3
    refine c_false H rfl ?_
    refine wp_skip ?_
    refine hK2 _ _ ?_
    clear hK2 K2
    refine wp_seq_k (fun K4 hK4 => ?_)
    refine e_region (fun R hR => ?_)
    refine e_op H rfl rfl (by decide) (x_move H rfl rfl) ?_
    clear H a; intro a H
    refine e_callq H rfl rfl (by decide) rfl rfl (Try.call112 _) (open_any ad n c l 2 w0 hb hz hnc hn) ?_
    clear H a
    rintro e w1 ⟨E1, _, hgood⟩
    obtain ⟨gr, q, rfl, Qd, hgr, hq⟩ := hgood ho
    refine ⟨_, rfl, fun a H => ?_⟩
    refine e_op H rfl rfl (by decide) (x_move H rfl rfl) ?_
    clear H a; intro a H
    refine e_op H rfl rfl (by decide) (x_extract H rfl rfl rfl) ?_
    clear H a; intro a H
    refine e_op H rfl rfl (by decide) (x_extract H rfl rfl rfl) ?_
    clear H a; intro a H
    refine e_op H rfl rfl (by decide) (x_extract H rfl rfl rfl) ?_
    clear H a; intro a H
    refine e_op H rfl rfl (by decide) (x_assign H rfl rfl) ?_
    clear H a; intro a H
    refine e_op H rfl rfl (by decide) (x_assign H rfl rfl) ?_
    clear H a; intro a H
    refine e_op H rfl rfl (by decide) (x_assign H rfl rfl) ?_
    clear H a; intro a H
    refine e_nil (hR.out _ _ ?_)
    clear hR R
    refine hK4 _ _ ?_
    clear hK4 K4
    refine wp_seq_k (fun K5 hK5 => ?_)
    refine wp_seq_k (fun K6 hK6 => ?_)
    refine e_region (fun R hR => ?_)
    refine e_op H rfl rfl (by decide) (x_move H rfl rfl) ?_
    clear H a; intro a H
    refine e_op H rfl rfl (by decide) (x_binI H rfl rfl rfl (b_neq (b := false) (rfl))) ?_
    clear H a; intro a H
    refine e_nil (hR.out _ _ ?_)
    clear hR R
    refine hK6 _ _ ?_
    clear hK6 K6
    refine c_false H rfl ?_
    refine wp_skip ?_
    refine hK5 _ _ ?_
    clear hK5 K5
    refine wp_seq_k (fun K7 hK7 => ?_)
    refine e_region (fun R hR => ?_)
    refine e_op H rfl rfl (by decide) (x_move H rfl rfl) ?_
    clear H a; intro a H
    refine e_callq H rfl rfl (by decide) rfl rfl (Try.call79 _) (akC_any gr q (opn l 2) w1 Qd) ?_
    clear H a
    rintro e w2 ⟨ab, cb, rfl, Ob, Qd2, Fr2⟩
    refine ⟨_, rfl, fun a H => ?_⟩
    replace Ob := Ob.mono E1.sz
    have E2 := Fr2.ext E1 (by simp; omega)
    clear Fr2 Qd E1
    refine e_op H rfl rfl (by decide) (x_assign H rfl rfl) ?_
    clear H a; intro a H
    refine e_nil (hR.out _ _ ?_)
    clear hR R
    refine hK7 _ _ ?_
    clear hK7 K7
    refine wp_seq_k (fun K8 hK8 => ?_)
    refine wp_seq_k (fun K9 hK9 => ?_)
    refine Code.wp_mono (Q := fun e a w => e = Exit.normal ∧ Has a 100 [(0, .pointer (some ⟨g, 0, none⟩)), (6, .int .u32 ((opn l 2).id : Int)), (8, .slice ab (akC (opn l 2)).body.length cb), (42, .bool (badAck (akC (opn l 2))))] ∧ w = w2) (fun e a w hM => ?_) ?_
    · skip
      clear H
      obtain ⟨rfl, H, hww⟩ := hM
      rw [hww]
      clear hww w
      refine hK9 _ _ ?_
      clear hK9 K9
      refine c_split H rfl (fun ht => ?_) (fun ht => ?_)
      · skip
        have hsa : s.ack l = (6, s) := Snd.ack_bad ho ht
        refine wp_seq_k (fun K10 hK10 => ?_)
        refine e_region (fun R hR => ?_)
        refine e_op H rfl rfl (by decide) (x_assign H rfl rfl) ?_
        clear H a; intro a H
        refine e_nil (hR.out _ _ ?_)
        clear hR R
        refine hK10 _ _ ?_
        clear hK10 K10
        refine wp_ret ?_
        refine t_ret ?_
        rw [hsa]
        exact ret1 H rfl rfl ⟨rfl, R0.ext E2, E2.frm, fun _ => E2⟩
      · skip
        have hbf := ht
        refine wp_skip ?_
        refine hK8 _ _ ?_
        clear hK8 K8
        refine wp_seq_k (fun K11 hK11 => ?_)
        refine wp_seq_k (fun K12 hK12 => ?_)
        refine e_region (fun R hR => ?_)
        refine e_op H rfl rfl (by decide) (x_move H rfl rfl) ?_
        clear H a; intro a H
        refine e_op H rfl rfl (by decide) (x_move H rfl rfl) ?_
        clear H a; intro a H
        refine e_op H rfl rfl (by decide) (x_nilCheck H rfl rfl) ?_
        clear H a; intro a H
        refine e_op H rfl rfl (by decide) (x_fieldAddr H rfl rfl (fa184_0 _ _)) ?_
        clear H a; intro a H
        refine e_op H rfl rfl (by decide) (x_load H rfl rfl (l_cell Try.isAgg52 ((R0.ext E2).blk.at_ (i := 0) rfl))) ?_
        clear H a; intro a H
        refine e_op H rfl rfl (by decide) (x_binI H rfl rfl rfl (b_neq (b := (((opn l 2).id : Int) != (s.id : Int))) (rfl))) ?_
        clear H a; intro a H
        refine e_nil (hR.out _ _ ?_)
        clear hR R
        refine hK12 _ _ ?_
        clear hK12 K12
        refine c_split H rfl (fun ht => ?_) (fun ht => ?_)
        · skip
          have hid : (opn l 2).id ≠ s.id := by have h := ht; simp only [bne_iff_ne, ne_eq] at h; omega
          have hsa : s.ack l = (13, s) := by rw [Snd.ack_good ho hbf, if_pos hid]
          refine wp_seq_k (fun K13 hK13 => ?_)
          refine e_region (fun R hR => ?_)
          refine e_op H rfl rfl (by decide) (x_assign H rfl rfl) ?_
          clear H a; intro a H
          refine e_nil (hR.out _ _ ?_)
          clear hR R
          refine hK13 _ _ ?_
          clear hK13 K13
          refine wp_ret ?_
          refine t_ret ?_
          rw [hsa]
          exact ret1 H rfl rfl ⟨rfl, R0.ext E2, E2.frm, fun _ => E2⟩
        · skip
          have hid : (opn l 2).id = s.id := by have h := ht; simp only [bne_eq_false_iff_eq] at h; omega
          refine wp_skip ?_
          refine hK11 _ _ ?_
          clear hK11 K11
          refine wp_seq_k (fun K14 hK14 => ?_)
          refine e_region (fun R hR => ?_)
          refine e_op H rfl rfl (by decide) (x_assign H rfl rfl) ?_
          clear H a; intro a H
          refine e_nil (hR.out _ _ ?_)
          clear hR R
          refine hK14 _ _ ?_
          clear hK14 K14
          refine wp_seq_k (fun K15 hK15 => ?_)
          refine wp_seq_k (fun K16 hK16 => ?_)
          refine e_region (fun R hR => ?_)
          refine e_op H rfl rfl (by decide) (x_move H rfl rfl) ?_
          clear H a; intro a H
          refine e_op H rfl rfl (by decide) (x_builtin H rfl rfl (fun cs => len_sl Try.underlying22)) ?_
          clear H a; intro a H
          refine e_op H rfl rfl (by decide) (x_binI H rfl rfl rfl (b_mul (z := ((8 * (akC (opn l 2)).body.length : Nat) : Int)) (by rw [IntKind.wrap_i64]; omega))) ?_
          clear H a; intro a H
          refine e_op H rfl rfl (by decide) (x_move H rfl rfl) ?_
          clear H a; intro a H
          refine e_nil (hR.out _ _ ?_)
          clear hR R
          refine hK16 _ _ ?_
          clear hK16 K16
          refine wp_block ?_
          refine wp_loop_ghost (fun n a w => ∃ i va c, i ≤ (8 * (akC (opn l 2)).body.length) ∧ n = (8 * (akC (opn l 2)).body.length) - i ∧ Has a 100 [(0, .pointer (some ⟨g, 0, none⟩)), (8, .slice ab (akC (opn l 2)).body.length cb), (9, .slice va (ints (unm (fun k => !bitAt (akC (opn l 2)).body k) i)).length c), (51, .int .i64 (((8 * (akC (opn l 2)).body.length) : Nat) : Int)), (52, .int .i64 (i : Int))] ∧ Rw w w0.heap.size 3 (.slice va (ints (unm (fun k => !bitAt (akC (opn l 2)).body k) i)).length c) (ints (unm (fun k => !bitAt (akC (opn l 2)).body k) i)) ∧ Ow w w0.heap.size ab (akC (opn l 2)).body.length cb (akC (opn l 2)).body ∧ Ext w0 w) ((8 * (akC (opn l 2)).body.length)) ?_ ?_
          · skip
            exact ⟨0, none, 0, by omega, rfl, H.sub ⟨rfl, rfl, rfl, rfl, rfl, trivial⟩, Rw.nil _ _ _, Ob, E2⟩
          · skip
            clear H Ob Qd2 E2
            intro n a w hI
            obtain ⟨i, va, c, hi, rfl, H, RW, Obl, E⟩ := hI
            rcases (show (i < (8 * (akC (opn l 2)).body.length) ∧ bitAt (akC (opn l 2)).body i = true) ∨ (i < (8 * (akC (opn l 2)).body.length) ∧ bitAt (akC (opn l 2)).body i = false) ∨ i = (8 * (akC (opn l 2)).body.length) by cases bitAt (akC (opn l 2)).body i <;> simp <;> omega) with ⟨hlt, hgb⟩ | ⟨hlt, hgb⟩ | rfl
            · skip
              obtain ⟨b0, o0, hab, hcell⟩ := Obl.bs.cell (i / 8) (by omega)
              rw [hab] at H
              refine wp_seq_k (fun K17 hK17 => ?_)
              refine e_region (fun R hR => ?_)
              refine e_op H rfl rfl (by decide) (x_binI H rfl rfl rfl (b_lss (b := true) (dec_t (by omega)))) ?_
              clear H a; intro a H
              refine e_nil (hR.out _ _ ?_)
              clear hR R
              refine hK17 _ _ ?_
              clear hK17 K17
              refine wp_seq_k (fun K18 hK18 => ?_)
              refine c_true H rfl ?_
              refine wp_skip ?_
              refine hK18 _ _ ?_
              clear hK18 K18
              refine wp_seq_k (fun K19 hK19 => ?_)
              refine wp_block ?_
              refine wp_seq_k (fun K20 hK20 => ?_)
              refine e_region (fun R hR => ?_)
              refine e_op H rfl rfl (by decide) (x_move H rfl rfl) ?_
              clear H a; intro a H
              refine e_op H rfl rfl (by decide) (x_assign H rfl rfl) ?_
              clear H a; intro a H
              refine e_nil (hR.out _ _ ?_)
              clear hR R
              refine hK20 _ _ ?_
              clear hK20 K20
              refine wp_seq_k (fun K21 hK21 => ?_)
              refine e_region (fun R hR => ?_)
              refine e_op H rfl rfl (by decide) (x_move H rfl rfl) ?_
              clear H a; intro a H
              refine e_op H rfl rfl (by decide) (x_move H rfl rfl) ?_
              clear H a; intro a H
              refine e_op H rfl rfl (by decide) (x_binI H rfl rfl rfl (b_quo (z := ((i / 8 : Nat) : Int)) (by decide) (by rw [Int.tdiv_eq_ediv_of_nonneg (by omega), IntKind.wrap_i64]; omega))) ?_
              clear H a; intro a H
              refine e_op H rfl rfl (by decide) (x_indexAddr H rfl rfl rfl (i_sl (m := i / 8) Try.underlying22 Try.sizeOf5 rfl (by omega))) ?_
              clear H a; intro a H
              refine e_op H rfl rfl (by decide) (x_load H rfl rfl (l_cell Try.isAgg5 (hcell))) ?_
              clear H a; intro a H
              refine e_op H rfl rfl (by decide) (x_move H rfl rfl) ?_
              clear H a; intro a H
              refine e_op H rfl rfl (by decide) (x_binI H rfl rfl rfl (b_rem (z := ((i % 8 : Nat) : Int)) (by decide) (by rw [Int.tmod_eq_emod_of_nonneg (by omega)]; omega))) ?_
              clear H a; intro a H
              refine e_op H rfl rfl (by decide) (x_binI H rfl rfl rfl (b_shr (z := (nb (akC (opn l 2)).body (i / 8) / (2 : Int) ^ (i % 8))) (by omega) (by rw [Int.toNat_natCast, show min (i % 8) IntKind.u8.bits = i % 8 by have : IntKind.u8.bits = 8 := rfl; omega]))) ?_
              clear H a; intro a H
              refine e_op H rfl rfl (by decide) (x_binI H rfl rfl rfl (b_and (z := (1 : Int)) (by rw [bit_mark, hgb]; rfl))) ?_
              clear H a; intro a H
              refine e_op H rfl rfl (by decide) (x_binI H rfl rfl rfl (b_neq (b := true) (rfl))) ?_
              clear H a; intro a H
              refine e_nil (hR.out _ _ ?_)
              clear hR R
              rw [← hab] at H
              refine hK21 _ _ ?_
              clear hK21 K21
              refine c_true H rfl ?_
              refine e_region (fun R hR => ?_)
              refine e_op H rfl rfl (by decide) (x_move H rfl rfl) ?_
              clear H a; intro a H
              refine e_op H rfl rfl (by decide) (x_move H rfl rfl) ?_
              clear H a; intro a H
              refine e_op H rfl rfl (by decide) (x_buildSlice H rfl rfl (bs155 _ _)) ?_
              clear H a; intro a H
              obtain ⟨el, hel⟩ : ∃ el, el = Value.int .i64 (i : Int) := ⟨_, rfl⟩
              have E3 := E.al (.cells [el].toArray 3)
              have RWa := RW.ext ((Ext.refl w).al (.cells [el].toArray 3))
              have hul := unm_len (fun k => !bitAt (akC (opn l 2)).body k) i
              obtain ⟨v4, w4, hr4, RW4, G4, hb4⟩ := Rw.app el155 (w.alloc (.cells [el].toArray 3)) 155 w0.heap.size RWa (Rw.new w 0 3 [el] (Nat.zero_le _) (by simp)) (fun u hu => by simp at hu; rw [hu, hel]; rfl) (by rw [ints_len]; simp; omega) (by omega) E3.sz
              have E4 : Ext w0 w4 := E3.grown G4 (fun k hk => (RW.blk k hk).1)
              have Ob4 := (Obl.ext_ ((Ext.refl w).al (.cells [el].toArray 3))).past RWa (by decide) G4
              rw [hel] at hr4
              obtain ⟨a4, c4, rfl, _⟩ := RW4.shape
              have hx : ints (unm (fun k => !bitAt (akC (opn l 2)).body k) (i + 1)) = (ints (unm (fun k => !bitAt (akC (opn l 2)).body k) i)) ++ [el] := by rw [unm_succ, hgb, hel]; simp [ints]
              refine e_op H rfl rfl (by decide) (x_builtin H rfl rfl (fun cs => bi_app hr4)) ?_
              clear H a; intro a H
              refine e_op H rfl rfl (by decide) (x_assign H rfl rfl) ?_
              clear H a; intro a H
              refine e_nil (hR.out _ _ ?_)
              clear hR R
              refine hK19 _ _ ?_
              clear hK19 K19
              refine e_region (fun R hR => ?_)
              refine e_op H rfl rfl (by decide) (x_binI H rfl rfl rfl (b_add (z := ((i + 1 : Nat) : Int)) (by rw [IntKind.wrap_i64]; omega))) ?_
              clear H a; intro a H
              refine e_op H rfl rfl (by decide) (x_move H rfl rfl) ?_
              clear H a; intro a H
              refine e_nil (hR.out _ _ ?_)
              clear hR R
              rw [← hx] at RW4 H
              exact ⟨(8 * (akC (opn l 2)).body.length) - (i + 1), by omega, i + 1, a4, c4, by omega, rfl, H.sub ⟨rfl, rfl, rfl, rfl, rfl, trivial⟩, RW4, Ob4, E4⟩
            · skip
              obtain ⟨b0, o0, hab, hcell⟩ := Obl.bs.cell (i / 8) (by omega)
              rw [hab] at H
              refine wp_seq_k (fun K22 hK22 => ?_)
              refine e_region (fun R hR => ?_)
              refine e_op H rfl rfl (by decide) (x_binI H rfl rfl rfl (b_lss (b := true) (dec_t (by omega)))) ?_
              clear H a; intro a H
              refine e_nil (hR.out _ _ ?_)
              clear hR R
              refine hK22 _ _ ?_
              clear hK22 K22
              refine wp_seq_k (fun K23 hK23 => ?_)
              refine c_true H rfl ?_
              refine wp_skip ?_
              refine hK23 _ _ ?_
              clear hK23 K23
              refine wp_seq_k (fun K24 hK24 => ?_)
              refine wp_block ?_
              refine wp_seq_k (fun K25 hK25 => ?_)
              refine e_region (fun R hR => ?_)
              refine e_op H rfl rfl (by decide) (x_move H rfl rfl) ?_
              clear H a; intro a H
              refine e_op H rfl rfl (by decide) (x_assign H rfl rfl) ?_
              clear H a; intro a H
              refine e_nil (hR.out _ _ ?_)
              clear hR R
              refine hK25 _ _ ?_
              clear hK25 K25
              refine wp_seq_k (fun K26 hK26 => ?_)
              refine e_region (fun R hR => ?_)
              refine e_op H rfl rfl (by decide) (x_move H rfl rfl) ?_
              clear H a; intro a H
              refine e_op H rfl rfl (by decide) (x_move H rfl rfl) ?_
              clear H a; intro a H
              refine e_op H rfl rfl (by decide) (x_binI H rfl rfl rfl (b_quo (z := ((i / 8 : Nat) : Int)) (by decide) (by rw [Int.tdiv_eq_ediv_of_nonneg (by omega), IntKind.wrap_i64]; omega))) ?_
              clear H a; intro a H
              refine e_op H rfl rfl (by decide) (x_indexAddr H rfl rfl rfl (i_sl (m := i / 8) Try.underlying22 Try.sizeOf5 rfl (by omega))) ?_
              clear H a; intro a H
              refine e_op H rfl rfl (by decide) (x_load H rfl rfl (l_cell Try.isAgg5 (hcell))) ?_
              clear H a; intro a H
              refine e_op H rfl rfl (by decide) (x_move H rfl rfl) ?_
              clear H a; intro a H
              refine e_op H rfl rfl (by decide) (x_binI H rfl rfl rfl (b_rem (z := ((i % 8 : Nat) : Int)) (by decide) (by rw [Int.tmod_eq_emod_of_nonneg (by omega)]; omega))) ?_
              clear H a; intro a H
              refine e_op H rfl rfl (by decide) (x_binI H rfl rfl rfl (b_shr (z := (nb (akC (opn l 2)).body (i / 8) / (2 : Int) ^ (i % 8))) (by omega) (by rw [Int.toNat_natCast, show min (i % 8) IntKind.u8.bits = i % 8 by have : IntKind.u8.bits = 8 := rfl; omega]))) ?_
              clear H a; intro a H
              refine e_op H rfl rfl (by decide) (x_binI H rfl rfl rfl (b_and (z := (0 : Int)) (by rw [bit_mark, hgb]; rfl))) ?_
              clear H a; intro a H
              refine e_op H rfl rfl (by decide) (x_binI H rfl rfl rfl (b_neq (b := false) (rfl))) ?_
              clear H a; intro a H
              refine e_nil (hR.out _ _ ?_)
              clear hR R
              rw [← hab] at H
              refine hK26 _ _ ?_
              clear hK26 K26
              refine c_false H rfl ?_
              refine wp_skip ?_
              refine hK24 _ _ ?_
              clear hK24 K24
              refine e_region (fun R hR => ?_)
              refine e_op H rfl rfl (by decide) (x_binI H rfl rfl rfl (b_add (z := ((i + 1 : Nat) : Int)) (by rw [IntKind.wrap_i64]; omega))) ?_
              clear H a; intro a H
              refine e_op H rfl rfl (by decide) (x_move H rfl rfl) ?_
              clear H a; intro a H
              refine e_nil (hR.out _ _ ?_)
              clear hR R
              have hx : unm (fun k => !bitAt (akC (opn l 2)).body k) (i + 1) = (unm (fun k => !bitAt (akC (opn l 2)).body k) i) := by rw [unm_succ, hgb]; simp
              exact ⟨(8 * (akC (opn l 2)).body.length) - (i + 1), by omega, i + 1, va, c, by omega, rfl, by rw [hx]; exact H.sub ⟨rfl, rfl, rfl, rfl, rfl, trivial⟩, by rw [hx]; exact RW, Obl, E⟩
            · skip
              have hmk : unm (fun k => !bitAt (akC (opn l 2)).body k) (8 * (akC (opn l 2)).body.length) = (marked (akC (opn l 2)).body) := rfl
              have hmll : (marked (akC (opn l 2)).body).length ≤ (8 * (akC (opn l 2)).body.length) := unm_len (fun k => !bitAt (akC (opn l 2)).body k) (8 * (akC (opn l 2)).body.length)
              rw [hmk] at H RW
              refine wp_seq_k (fun K27 hK27 => ?_)
              refine e_region (fun R hR => ?_)
              refine e_op H rfl rfl (by decide) (x_binI H rfl rfl rfl (b_lss (b := false) (dec_f (by omega)))) ?_
              clear H a; intro a H
              refine e_nil (hR.out _ _ ?_)
              clear hR R
              refine hK27 _ _ ?_
              clear hK27 K27
              refine wp_seq_k (fun K28 hK28 => ?_)
              refine c_false H rfl ?_
              refine wp_exit ?_
              refine t_exit ?_
              refine t_exit ?_
              refine b_hit ?_
              clear hK28 K28
              refine hK15 _ _ ?_
              clear hK15 K15
              refine wp_seq_k (fun K29 hK29 => ?_)
              refine wp_seq_k (fun K30 hK30 => ?_)
              obtain ⟨wl, hwl⟩ : ∃ wl, wl = w := ⟨_, rfl⟩
              have RWl : Rw wl w0.heap.size 3 (.slice va (ints (marked (akC (opn l 2)).body)).length c) (ints (marked (akC (opn l 2)).body)) := by rw [hwl]; exact RW
              have El : Ext w0 wl := by rw [hwl]; exact E
              refine Code.wp_mono (Q := fun e a w => e = Exit.normal ∧ Has a 100 [(0, .pointer (some ⟨g, 0, none⟩)), (9, .slice va (ints (marked (akC (opn l 2)).body)).length c), (87, .bool (decide ((marked (akC (opn l 2)).body) ≠ [] ∧ (chunksT s.file.length) ≤ lastN (marked (akC (opn l 2)).body))))] ∧ w = wl.drew) (fun e a w hM => ?_) ?_
              · skip
                clear H RW E
                obtain ⟨rfl, H, hww⟩ := hM
                have RW := RWl.ext ((Ext.refl wl).dr)
                have E := El.dr
                rw [hww]
                clear hww w RWl El hwl
                refine hK30 _ _ ?_
                clear hK30 K30
                refine c_split H rfl (fun ht => ?_) (fun ht => ?_)
                · skip
                  have hbb : (marked (akC (opn l 2)).body) ≠ [] ∧ (chunksT s.file.length) ≤ lastN (marked (akC (opn l 2)).body) := by simpa using ht
                  have hsa : s.ack l = (2, s) := by rw [Snd.ack_good ho hbf, if_neg (by simp [hid]), if_pos hbb]
                  refine wp_seq_k (fun K31 hK31 => ?_)
                  refine e_region (fun R hR => ?_)
                  refine e_op H rfl rfl (by decide) (x_assign H rfl rfl) ?_
                  clear H a; intro a H
                  refine e_nil (hR.out _ _ ?_)
                  clear hR R
                  refine hK31 _ _ ?_
                  clear hK31 K31
                  refine wp_ret ?_
                  refine t_ret ?_
                  rw [hsa]
                  exact ret1 H rfl rfl ⟨rfl, R0.ext E, E.frm, fun _ => E⟩
                · skip
                  have hbb : ¬ ((marked (akC (opn l 2)).body) ≠ [] ∧ (chunksT s.file.length) ≤ lastN (marked (akC (opn l 2)).body)) := by simpa using ht
                  have hsa : s.ack l = (0, ⟨s.id, s.file, setAll s.acked (marked (akC (opn l 2)).body)⟩) := by rw [Snd.ack_good ho hbf, if_neg (by simp [hid]), if_neg hbb]
                  have hall : ∀ k ∈ (marked (akC (opn l 2)).body), k < (chunksT s.file.length) := fun k hk => by
                    have h1 := (unm_last (fun k => !bitAt (akC (opn l 2)).body k) (8 * (akC (opn l 2)).body.length)).2 k hk
                    by_cases h2 : (chunksT s.file.length) ≤ lastN (marked (akC (opn l 2)).body)
                    · exact absurd ⟨List.ne_nil_of_mem hk, h2⟩ hbb
                    · have h3 : k ≤ lastN (marked (akC (opn l 2)).body) := h1
                      omega
                  refine wp_skip ?_
                  refine hK29 _ _ ?_
                  clear hK29 K29
                  refine wp_seq_k (fun K32 hK32 => ?_)
                  refine wp_seq_k (fun K33 hK33 => ?_)
                  refine e_region (fun R hR => ?_)
                  refine e_op H rfl rfl (by decide) (x_move H rfl rfl) ?_
                  clear H a; intro a H
                  refine e_op H rfl rfl (by decide) (x_builtin H rfl rfl (fun cs => len_sl Try.underlying155)) ?_
                  clear H a; intro a H
                  refine e_op H rfl rfl (by decide) (x_move H rfl rfl) ?_
                  clear H a; intro a H
                  refine e_nil (hR.out _ _ ?_)
                  clear hR R
                  refine hK33 _ _ ?_
                  clear hK33 K33
                  refine wp_block ?_
                  refine wp_loop_ghost (fun n a w => ∃ j, j ≤ (marked (akC (opn l 2)).body).length ∧ n = (marked (akC (opn l 2)).body).length - j ∧ Has a 100 [(0, .pointer (some ⟨g, 0, none⟩)), (88, .slice va (ints (marked (akC (opn l 2)).body)).length c), (89, .int .i64 (((ints (marked (akC (opn l 2)).body)).length : Nat) : Int)), (90, .int .i64 (j : Int))] ∧ Rw w w0.heap.size 3 (.slice va (ints (marked (akC (opn l 2)).body)).length c) (ints (marked (akC (opn l 2)).body)) ∧ Sn w B g (.slice fa s.file.length fc) ⟨s.id, s.file, setAll s.acked ((marked (akC (opn l 2)).body).take j)⟩ ∧ Frm [g] w0 w) ((marked (akC (opn l 2)).body).length) ?_ ?_
                  · skip
                    exact ⟨0, by omega, rfl, H.sub ⟨rfl, rfl, rfl, rfl, trivial⟩, RW, R0.ext E, E.frm⟩
                  · skip
                    clear H RW E
                    intro n a w hI
                    obtain ⟨j, hj, rfl, H, RW, SN, F⟩ := hI
                    have hxl := ints_len (marked (akC (opn l 2)).body)
                    rcases (show j < (marked (akC (opn l 2)).body).length ∨ j = (marked (akC (opn l 2)).body).length by omega) with hlt | hje
                    · skip
                      obtain ⟨gl, ol, cl, hv⟩ := RW.pos (by omega)
                      simp only [Value.slice.injEq] at hv
                      obtain ⟨rfl, _, rfl⟩ := hv
                      have hkm : ((marked (akC (opn l 2)).body)[j]?.getD 0) < (chunksT s.file.length) := hall _ (by rw [List.getElem?_eq_getElem hlt]; exact List.getElem_mem hlt)
                      refine wp_seq_k (fun K34 hK34 => ?_)
                      refine e_region (fun R hR => ?_)
                      refine e_op H rfl rfl (by decide) (x_binI H rfl rfl rfl (b_lss (b := true) (dec_t (by omega)))) ?_
                      clear H a; intro a H
                      refine e_nil (hR.out _ _ ?_)
                      clear hR R
                      refine hK34 _ _ ?_
                      clear hK34 K34
                      refine wp_seq_k (fun K35 hK35 => ?_)
                      refine c_true H rfl ?_
                      refine wp_skip ?_
                      refine hK35 _ _ ?_
                      clear hK35 K35
                      refine wp_seq_k (fun K36 hK36 => ?_)
                      refine wp_block ?_
                      refine wp_seq_k (fun K37 hK37 => ?_)
                      refine e_region (fun R hR => ?_)
                      refine e_op H rfl rfl (by decide) (x_indexAddr H rfl rfl rfl (i_sl (m := j) Try.underlying155 Try.sizeOf3 rfl (by omega))) ?_
                      clear H a; intro a H
                      refine e_op H rfl rfl (by decide) (x_load H rfl rfl (l_cell Try.isAgg3 (RW.cells j _ (ints_get _ _ hlt)))) ?_
                      clear H a; intro a H
                      refine e_op H rfl rfl (by decide) (x_assign H rfl rfl) ?_
                      clear H a; intro a H
                      refine e_nil (hR.out _ _ ?_)
                      clear hR R
                      refine hK37 _ _ ?_
                      clear hK37 K37
                      refine e_region (fun R hR => ?_)
                      refine e_op H rfl rfl (by decide) (x_move H rfl rfl) ?_
                      clear H a; intro a H
                      refine e_op H rfl rfl (by decide) (x_move H rfl rfl) ?_
                      clear H a; intro a H
                      refine e_op H rfl rfl (by decide) (x_nilCheck H rfl rfl) ?_
                      clear H a; intro a H
                      refine e_op H rfl rfl (by decide) (x_fieldAddr H rfl rfl (fa184_2 _ _)) ?_
                      clear H a; intro a H
                      refine e_op H rfl rfl (by decide) (x_indexAddr H rfl rfl rfl (i_arr (m := ((marked (akC (opn l 2)).body)[j]?.getD 0)) Try.underlying179 Try.sizeOf4 rfl (by omega))) ?_
                      clear H a; intro a H
                      refine e_st H rfl rfl (x_store H rfl rfl rfl (st_cell rfl rfl Try.sizeOf4 (SN.blk.frozen _) (SN.blk.isSome (2 + ((marked (akC (opn l 2)).body)[j]?.getD 0)) (by simp only [sndCells, List.length_cons, bools_len]; rw [setAll_len, hlen]; omega)))) ?_
                      refine e_nil (hR.out _ _ ?_)
                      clear hR R
                      have SN2 := SN.set ((marked (akC (opn l 2)).body)[j]?.getD 0) (by omega)
                      have F2 := F.st g (2 + ((marked (akC (opn l 2)).body)[j]?.getD 0)) (.bool true) (.inl (by simp))
                      have RW2 := RW.frm ((Frm.refl [g] w).st g (2 + ((marked (akC (opn l 2)).body)[j]?.getD 0)) (.bool true) (.inl (by simp))) (fun k hk => by have := (RW.blk k hk).1; simp; omega)
                      generalize w.setCell ⟨g, 2 + ((marked (akC (opn l 2)).body)[j]?.getD 0), none⟩ (.bool true) = wb at *
                      refine hK36 _ _ ?_
                      clear hK36 K36
                      refine e_region (fun R hR => ?_)
                      refine e_op H rfl rfl (by decide) (x_binI H rfl rfl rfl (b_add (z := ((j + 1 : Nat) : Int)) (by rw [IntKind.wrap_i64]; omega))) ?_
                      clear H a; intro a H
                      refine e_op H rfl rfl (by decide) (x_move H rfl rfl) ?_
                      clear H a; intro a H
                      refine e_nil (hR.out _ _ ?_)
                      clear hR R
                      have ht : (marked (akC (opn l 2)).body).take (j + 1) = (marked (akC (opn l 2)).body).take j ++ [((marked (akC (opn l 2)).body)[j]?.getD 0)] := by rw [List.take_add_one, List.getElem?_eq_getElem hlt]; simp
                      exact ⟨(marked (akC (opn l 2)).body).length - (j + 1), by omega, j + 1, by omega, rfl, H.sub ⟨rfl, rfl, rfl, rfl, trivial⟩, RW2, by rw [ht, setAll_snoc]; exact SN2, F2⟩
                    · skip
                      skip
                      refine wp_seq_k (fun K38 hK38 => ?_)
                      refine e_region (fun R hR => ?_)
                      refine e_op H rfl rfl (by decide) (x_binI H rfl rfl rfl (b_lss (b := false) (dec_f (by omega)))) ?_
                      clear H a; intro a H
                      refine e_nil (hR.out _ _ ?_)
                      clear hR R
                      refine hK38 _ _ ?_
                      clear hK38 K38
                      refine wp_seq_k (fun K39 hK39 => ?_)
                      refine c_false H rfl ?_
                      refine wp_exit ?_
                      refine t_exit ?_
                      refine t_exit ?_
                      refine b_hit ?_
                      clear hK39 K39
                      refine hK32 _ _ ?_
                      clear hK32 K32
                      refine wp_seq_k (fun K40 hK40 => ?_)
                      refine e_region (fun R hR => ?_)
                      refine e_op H rfl rfl (by decide) (x_assign H rfl rfl) ?_
                      clear H a; intro a H
                      refine e_nil (hR.out _ _ ?_)
                      clear hR R
                      refine hK40 _ _ ?_
                      clear hK40 K40
                      refine wp_ret ?_
                      rw [hje, List.take_length] at SN
                      rw [hsa]
                      exact ret1 H rfl rfl ⟨rfl, SN, F, fun h => absurd rfl h⟩
              · skip
                subst hwl
                rcases (show (marked (akC (opn l 2)).body).length = 0 ∨ (0 < (marked (akC (opn l 2)).body).length ∧ (chunksT s.file.length) ≤ lastN (marked (akC (opn l 2)).body)) ∨ (0 < (marked (akC (opn l 2)).body).length ∧ ¬ (chunksT s.file.length) ≤ lastN (marked (akC (opn l 2)).body)) by omega) with h1 | ⟨h1, h2⟩ | ⟨h1, h2⟩
                · skip
                  have hxl := ints_len (marked (akC (opn l 2)).body)
                  obtain ⟨wd, hwd⟩ : ∃ wx, wx = wl.drew := ⟨_, rfl⟩
                  have Ewd : Ext wl wd := by rw [hwd]; exact (Ext.refl _).dr
                  have Rd := R0.ext (El.tr Ewd)
                  have RWd := RWl.ext Ewd
                  have FSq := Ext.refl wd
                  refine g_start (fun w' => Ext wd w') (by kernel_rfl) (fun R hR => ?_)
                  rw [← hwd]
                  refine g_take 0 H rfl (wanted_none rfl) rfl (by decide) (by kernel_rfl) (by kernel_rfl) (by kernel_rfl) FSq (fun w' hSw => (x_move H rfl rfl)) ?_
                  clear H a; intro a H
                  refine g_take 1 H rfl (wanted_none rfl) rfl (by decide) (by kernel_rfl) (by kernel_rfl) (by kernel_rfl) FSq (fun w' hSw => (x_builtin H rfl rfl (fun cs => len_sl Try.underlying155))) ?_
                  clear H a; intro a H
                  refine g_take 2 H rfl (wanted_none rfl) rfl (by decide) (by kernel_rfl) (by kernel_rfl) (by kernel_rfl) FSq (fun w' hSw => (x_binI H rfl rfl rfl (b_gtr (b := false) (dec_f (by omega))))) ?_
                  clear H a; intro a H
                  refine g_take 3 H rfl (wanted_none rfl) rfl (by decide) (by kernel_rfl) (by kernel_rfl) (by kernel_rfl) FSq (fun w' hSw => (x_move H rfl rfl)) ?_
                  clear H a; intro a H
                  refine g_skip 4 H rfl (wanted_false H rfl rfl rfl rfl) rfl (by decide) (by kernel_rfl) (by kernel_rfl) (by kernel_rfl) FSq ?_
                  clear H a; intro a H
                  refine g_skip 5 H rfl (wanted_false H rfl rfl rfl rfl) rfl (by decide) (by kernel_rfl) (by kernel_rfl) (by kernel_rfl) FSq ?_
                  clear H a; intro a H
                  refine g_skip 6 H rfl (wanted_false H rfl rfl rfl rfl) rfl (by decide) (by kernel_rfl) (by kernel_rfl) (by kernel_rfl) FSq ?_
                  clear H a; intro a H
                  refine g_skip 7 H rfl (wanted_false H rfl rfl rfl rfl) rfl (by decide) (by kernel_rfl) (by kernel_rfl) (by kernel_rfl) FSq ?_
                  clear H a; intro a H
                  refine g_skip 8 H rfl (wanted_false H rfl rfl rfl rfl) rfl (by decide) (by kernel_rfl) (by kernel_rfl) (by kernel_rfl) FSq ?_
                  clear H a; intro a H
                  refine g_skip 9 H rfl (wanted_false H rfl rfl rfl rfl) rfl (by decide) (by kernel_rfl) (by kernel_rfl) (by kernel_rfl) FSq ?_
                  clear H a; intro a H
                  refine g_skip 10 H rfl (wanted_false H rfl rfl rfl rfl) rfl (by decide) (by kernel_rfl) (by kernel_rfl) (by kernel_rfl) FSq ?_
                  clear H a; intro a H
                  refine g_skip 11 H rfl (wanted_false H rfl rfl rfl rfl) rfl (by decide) (by kernel_rfl) (by kernel_rfl) (by kernel_rfl) FSq ?_
                  clear H a; intro a H
                  refine g_skip 12 H rfl (wanted_false H rfl rfl rfl rfl) rfl (by decide) (by kernel_rfl) (by kernel_rfl) (by kernel_rfl) FSq ?_
                  clear H a; intro a H
                  refine g_skip 13 H rfl (wanted_false H rfl rfl rfl rfl) rfl (by decide) (by kernel_rfl) (by kernel_rfl) (by kernel_rfl) FSq ?_
                  clear H a; intro a H
                  refine g_skip 14 H rfl (wanted_false H rfl rfl rfl rfl) rfl (by decide) (by kernel_rfl) (by kernel_rfl) (by kernel_rfl) FSq ?_
                  clear H a; intro a H
                  refine g_skip 15 H rfl (wanted_false H rfl rfl rfl rfl) rfl (by decide) (by kernel_rfl) (by kernel_rfl) (by kernel_rfl) FSq ?_
                  clear H a; intro a H
                  refine g_skip 16 H rfl (wanted_false H rfl rfl rfl rfl) rfl (by decide) (by kernel_rfl) (by kernel_rfl) (by kernel_rfl) FSq ?_
                  clear H a; intro a H
                  refine g_take 17 H rfl (wanted_none rfl) rfl (by decide) (by kernel_rfl) (by kernel_rfl) (by kernel_rfl) FSq (fun w' hSw => (x_pickF H rfl rfl rfl)) ?_
                  clear H a; intro a H
                  refine g_done (by kernel_rfl) (hR.out _ _ ?_)
                  clear hR R
                  have hba : (decide ((marked (akC (opn l 2)).body) ≠ [] ∧ (chunksT s.file.length) ≤ lastN (marked (akC (opn l 2)).body))) = false := decide_eq_false (fun h => h.1 (List.eq_nil_of_length_eq_zero h1))
                  rw [hba]
                  exact ⟨rfl, H.sub ⟨rfl, rfl, rfl, trivial⟩, hwd⟩
                · skip
                  have hxl := ints_len (marked (akC (opn l 2)).body)
                  obtain ⟨gl, ol, cl, hv⟩ := RW.pos (by omega)
                  simp only [Value.slice.injEq] at hv
                  obtain ⟨rfl, _, rfl⟩ := hv
                  obtain ⟨wd, hwd⟩ : ∃ wx, wx = wl.drew := ⟨_, rfl⟩
                  have Ewd : Ext wl wd := by rw [hwd]; exact (Ext.refl _).dr
                  have Rd := R0.ext (El.tr Ewd)
                  have RWd := RWl.ext Ewd
                  have FSq := Ext.refl wd
                  refine g_start (fun w' => Ext wd w') (by kernel_rfl) (fun R hR => ?_)
                  rw [← hwd]
                  refine g_take 0 H rfl (wanted_none rfl) rfl (by decide) (by kernel_rfl) (by kernel_rfl) (by kernel_rfl) FSq (fun w' hSw => (x_move H rfl rfl)) ?_
                  clear H a; intro a H
                  refine g_take 1 H rfl (wanted_none rfl) rfl (by decide) (by kernel_rfl) (by kernel_rfl) (by kernel_rfl) FSq (fun w' hSw => (x_builtin H rfl rfl (fun cs => len_sl Try.underlying155))) ?_
                  clear H a; intro a H
                  refine g_take 2 H rfl (wanted_none rfl) rfl (by decide) (by kernel_rfl) (by kernel_rfl) (by kernel_rfl) FSq (fun w' hSw => (x_binI H rfl rfl rfl (b_gtr (b := true) (dec_t (by omega))))) ?_
                  clear H a; intro a H
                  refine g_take 3 H rfl (wanted_none rfl) rfl (by decide) (by kernel_rfl) (by kernel_rfl) (by kernel_rfl) FSq (fun w' hSw => (x_move H rfl rfl)) ?_
                  clear H a; intro a H
                  refine g_take 4 H rfl (wanted_true H rfl rfl rfl rfl) rfl (by decide) (by kernel_rfl) (by kernel_rfl) (by kernel_rfl) FSq (fun w' hSw => (x_move H rfl rfl)) ?_
                  clear H a; intro a H
                  refine g_take 5 H rfl (wanted_true H rfl rfl rfl rfl) rfl (by decide) (by kernel_rfl) (by kernel_rfl) (by kernel_rfl) FSq (fun w' hSw => (x_move H rfl rfl)) ?_
                  clear H a; intro a H
                  refine g_take 6 H rfl (wanted_true H rfl rfl rfl rfl) rfl (by decide) (by kernel_rfl) (by kernel_rfl) (by kernel_rfl) FSq (fun w' hSw => (x_builtin H rfl rfl (fun cs => len_sl Try.underlying155))) ?_
                  clear H a; intro a H
                  refine g_take 7 H rfl (wanted_true H rfl rfl rfl rfl) rfl (by decide) (by kernel_rfl) (by kernel_rfl) (by kernel_rfl) FSq (fun w' hSw => (x_binI H rfl rfl rfl (b_sub (z := (((ints (marked (akC (opn l 2)).body)).length - 1 : Nat) : Int)) (by rw [IntKind.wrap_i64]; omega)))) ?_
                  clear H a; intro a H
                  refine g_take 8 H rfl (wanted_true H rfl rfl rfl rfl) rfl (by decide) (by kernel_rfl) (by kernel_rfl) (by kernel_rfl) FSq (fun w' hSw => (x_indexAddr H rfl rfl rfl (i_sl (m := (ints (marked (akC (opn l 2)).body)).length - 1) Try.underlying155 Try.sizeOf3 rfl (by omega)))) ?_
                  clear H a; intro a H
                  refine g_take 9 H rfl (wanted_true H rfl rfl rfl rfl) rfl (by decide) (by kernel_rfl) (by kernel_rfl) (by kernel_rfl) FSq (fun w' hSw => (x_load H rfl rfl (l_cell (v := .int .i64 ((lastN (marked (akC (opn l 2)).body) : Nat) : Int)) Try.isAgg3 ((RWd.ext hSw).cells ((ints (marked (akC (opn l 2)).body)).length - 1) _ (by rw [ints_len]; exact ints_get _ _ (by omega)))))) ?_
                  clear H a; intro a H
                  refine g_take 10 H rfl (wanted_true H rfl rfl rfl rfl) rfl (by decide) (by kernel_rfl) (by kernel_rfl) (by kernel_rfl) FSq (fun w' hSw => (x_move H rfl rfl)) ?_
                  clear H a; intro a H
                  refine g_take 11 H rfl (wanted_true H rfl rfl rfl rfl) rfl (by decide) (by kernel_rfl) (by kernel_rfl) (by kernel_rfl) FSq (fun w' hSw => (x_nilCheck H rfl rfl)) ?_
                  clear H a; intro a H
                  refine g_take 12 H rfl (wanted_true H rfl rfl rfl rfl) rfl (by decide) (by kernel_rfl) (by kernel_rfl) (by kernel_rfl) FSq (fun w' hSw => (x_fieldAddr H rfl rfl (fa184_1 _ _))) ?_
                  clear H a; intro a H
                  refine g_take 13 H rfl (wanted_true H rfl rfl rfl rfl) rfl (by decide) (by kernel_rfl) (by kernel_rfl) (by kernel_rfl) FSq (fun w' hSw => (x_load H rfl rfl (l_cell Try.isAgg22 ((Rd.ext hSw).blk.at_ (i := 1) rfl)))) ?_
                  clear H a; intro a H
                  refine g_take 14 H rfl (wanted_true H rfl rfl rfl rfl) rfl (by decide) (by kernel_rfl) (by kernel_rfl) (by kernel_rfl) FSq (fun w' hSw => (x_builtin H rfl rfl (fun cs => len_sl Try.underlying22))) ?_
                  clear H a; intro a H
                  refine g_call 15 H rfl (by kernel_rfl) (wanted_true H rfl rfl rfl rfl) rfl (by decide) rfl rfl (Try.call109 _) (chunks_any s.file.length wd (by omega)) ?_
                  clear H a
                  rintro e we ⟨rfl, hwe⟩
                  rw [hwe]
                  refine ⟨_, rfl, FSq, fun a H => ?_⟩
                  refine g_take 16 H rfl (wanted_true H rfl rfl rfl rfl) rfl (by decide) (by kernel_rfl) (by kernel_rfl) (by kernel_rfl) FSq (fun w' hSw => (x_binI H rfl rfl rfl (b_geq (b := true) (dec_t (by omega))))) ?_
                  clear H a; intro a H
                  refine g_take 17 H rfl (wanted_none rfl) rfl (by decide) (by kernel_rfl) (by kernel_rfl) (by kernel_rfl) FSq (fun w' hSw => (x_pickT H rfl rfl rfl)) ?_
                  clear H a; intro a H
                  refine g_done (by kernel_rfl) (hR.out _ _ ?_)
                  clear hR R
                  have hba : (decide ((marked (akC (opn l 2)).body) ≠ [] ∧ (chunksT s.file.length) ≤ lastN (marked (akC (opn l 2)).body))) = true := decide_eq_true ⟨List.length_pos_iff.1 h1, h2⟩
                  rw [hba]
                  exact ⟨rfl, H.sub ⟨rfl, rfl, rfl, trivial⟩, hwd⟩
                · skip
                  have hxl := ints_len (marked (akC (opn l 2)).body)
                  obtain ⟨gl, ol, cl, hv⟩ := RW.pos (by omega)
                  simp only [Value.slice.injEq] at hv
                  obtain ⟨rfl, _, rfl⟩ := hv
                  obtain ⟨wd, hwd⟩ : ∃ wx, wx = wl.drew := ⟨_, rfl⟩
                  have Ewd : Ext wl wd := by rw [hwd]; exact (Ext.refl _).dr
                  have Rd := R0.ext (El.tr Ewd)
                  have RWd := RWl.ext Ewd
                  have FSq := Ext.refl wd
                  refine g_start (fun w' => Ext wd w') (by kernel_rfl) (fun R hR => ?_)
                  rw [← hwd]
                  refine g_take 0 H rfl (wanted_none rfl) rfl (by decide) (by kernel_rfl) (by kernel_rfl) (by kernel_rfl) FSq (fun w' hSw => (x_move H rfl rfl)) ?_
                  clear H a; intro a H
                  refine g_take 1 H rfl (wanted_none rfl) rfl (by decide) (by kernel_rfl) (by kernel_rfl) (by kernel_rfl) FSq (fun w' hSw => (x_builtin H rfl rfl (fun cs => len_sl Try.underlying155))) ?_
                  clear H a; intro a H
                  refine g_take 2 H rfl (wanted_none rfl) rfl (by decide) (by kernel_rfl) (by kernel_rfl) (by kernel_rfl) FSq (fun w' hSw => (x_binI H rfl rfl rfl (b_gtr (b := true) (dec_t (by omega))))) ?_
                  clear H a; intro a H
                  refine g_take 3 H rfl (wanted_none rfl) rfl (by decide) (by kernel_rfl) (by kernel_rfl) (by kernel_rfl) FSq (fun w' hSw => (x_move H rfl rfl)) ?_
                  clear H a; intro a H
                  refine g_take 4 H rfl (wanted_true H rfl rfl rfl rfl) rfl (by decide) (by kernel_rfl) (by kernel_rfl) (by kernel_rfl) FSq (fun w' hSw => (x_move H rfl rfl)) ?_
                  clear H a; intro a H
                  refine g_take 5 H rfl (wanted_true H rfl rfl rfl rfl) rfl (by decide) (by kernel_rfl) (by kernel_rfl) (by kernel_rfl) FSq (fun w' hSw => (x_move H rfl rfl)) ?_
                  clear H a; intro a H
                  refine g_take 6 H rfl (wanted_true H rfl rfl rfl rfl) rfl (by decide) (by kernel_rfl) (by kernel_rfl) (by kernel_rfl) FSq (fun w' hSw => (x_builtin H rfl rfl (fun cs => len_sl Try.underlying155))) ?_
                  clear H a; intro a H
                  refine g_take 7 H rfl (wanted_true H rfl rfl rfl rfl) rfl (by decide) (by kernel_rfl) (by kernel_rfl) (by kernel_rfl) FSq (fun w' hSw => (x_binI H rfl rfl rfl (b_sub (z := (((ints (marked (akC (opn l 2)).body)).length - 1 : Nat) : Int)) (by rw [IntKind.wrap_i64]; omega)))) ?_
                  clear H a; intro a H
                  refine g_take 8 H rfl (wanted_true H rfl rfl rfl rfl) rfl (by decide) (by kernel_rfl) (by kernel_rfl) (by kernel_rfl) FSq (fun w' hSw => (x_indexAddr H rfl rfl rfl (i_sl (m := (ints (marked (akC (opn l 2)).body)).length - 1) Try.underlying155 Try.sizeOf3 rfl (by omega)))) ?_
                  clear H a; intro a H
                  refine g_take 9 H rfl (wanted_true H rfl rfl rfl rfl) rfl (by decide) (by kernel_rfl) (by kernel_rfl) (by kernel_rfl) FSq (fun w' hSw => (x_load H rfl rfl (l_cell (v := .int .i64 ((lastN (marked (akC (opn l 2)).body) : Nat) : Int)) Try.isAgg3 ((RWd.ext hSw).cells ((ints (marked (akC (opn l 2)).body)).length - 1) _ (by rw [ints_len]; exact ints_get _ _ (by omega)))))) ?_
                  clear H a; intro a H
                  refine g_take 10 H rfl (wanted_true H rfl rfl rfl rfl) rfl (by decide) (by kernel_rfl) (by kernel_rfl) (by kernel_rfl) FSq (fun w' hSw => (x_move H rfl rfl)) ?_
                  clear H a; intro a H
                  refine g_take 11 H rfl (wanted_true H rfl rfl rfl rfl) rfl (by decide) (by kernel_rfl) (by kernel_rfl) (by kernel_rfl) FSq (fun w' hSw => (x_nilCheck H rfl rfl)) ?_
                  clear H a; intro a H
                  refine g_take 12 H rfl (wanted_true H rfl rfl rfl rfl) rfl (by decide) (by kernel_rfl) (by kernel_rfl) (by kernel_rfl) FSq (fun w' hSw => (x_fieldAddr H rfl rfl (fa184_1 _ _))) ?_
                  clear H a; intro a H
                  refine g_take 13 H rfl (wanted_true H rfl rfl rfl rfl) rfl (by decide) (by kernel_rfl) (by kernel_rfl) (by kernel_rfl) FSq (fun w' hSw => (x_load H rfl rfl (l_cell Try.isAgg22 ((Rd.ext hSw).blk.at_ (i := 1) rfl)))) ?_
                  clear H a; intro a H
                  refine g_take 14 H rfl (wanted_true H rfl rfl rfl rfl) rfl (by decide) (by kernel_rfl) (by kernel_rfl) (by kernel_rfl) FSq (fun w' hSw => (x_builtin H rfl rfl (fun cs => len_sl Try.underlying22))) ?_
                  clear H a; intro a H
                  refine g_call 15 H rfl (by kernel_rfl) (wanted_true H rfl rfl rfl rfl) rfl (by decide) rfl rfl (Try.call109 _) (chunks_any s.file.length wd (by omega)) ?_
                  clear H a
                  rintro e we ⟨rfl, hwe⟩
                  rw [hwe]
                  refine ⟨_, rfl, FSq, fun a H => ?_⟩
                  refine g_take 16 H rfl (wanted_true H rfl rfl rfl rfl) rfl (by decide) (by kernel_rfl) (by kernel_rfl) (by kernel_rfl) FSq (fun w' hSw => (x_binI H rfl rfl rfl (b_geq (b := false) (dec_f (by omega))))) ?_
                  clear H a; intro a H
                  refine g_take 17 H rfl (wanted_none rfl) rfl (by decide) (by kernel_rfl) (by kernel_rfl) (by kernel_rfl) FSq (fun w' hSw => (x_pickT H rfl rfl rfl)) ?_
                  clear H a; intro a H
                  refine g_done (by kernel_rfl) (hR.out _ _ ?_)
                  clear hR R
                  have hba : (decide ((marked (akC (opn l 2)).body) ≠ [] ∧ (chunksT s.file.length) ≤ lastN (marked (akC (opn l 2)).body))) = false := decide_eq_false (fun h => h2 h.2)
                  rw [hba]
                  exact ⟨rfl, H.sub ⟨rfl, rfl, rfl, trivial⟩, hwd⟩
    · skip
      rcases (show rsEnd (akC (opn l 2)).left (akC (opn l 2)).err ≠ 0 ∨ (rsEnd (akC (opn l 2)).left (akC (opn l 2)).err = 0 ∧ (akC (opn l 2)).body.length = 0) ∨ (rsEnd (akC (opn l 2)).left (akC (opn l 2)).err = 0 ∧ 0 < (akC (opn l 2)).body.length ∧ nn (akC (opn l 2)).body ((akC (opn l 2)).body.length - 1) = 0) ∨ (rsEnd (akC (opn l 2)).left (akC (opn l 2)).err = 0 ∧ 0 < (akC (opn l 2)).body.length ∧ nn (akC (opn l 2)).body ((akC (opn l 2)).body.length - 1) ≠ 0) by omega) with h1 | ⟨h1, h2⟩ | ⟨h1, h2, h3⟩ | ⟨h1, h2, h3⟩
      · skip
        skip
        refine e_region (fun R hR => ?_)
        refine e_op H rfl rfl (by decide) (x_move H rfl rfl) ?_
        clear H a; intro a H
        refine e_callq H rfl rfl (by decide) rfl rfl (Try.call82 _) (rEnd_any gr q _ _ w2 Qd2) ?_
        clear H a
        rintro e w3 ⟨rfl, rfl⟩
        refine ⟨_, rfl, fun a H => ?_⟩
        refine e_op H rfl rfl (by decide) (x_binI H rfl rfl rfl (b_neq (b := true) (bne_t (by omega)))) ?_
        clear H a; intro a H
        refine e_op H rfl rfl (by decide) (x_move H rfl rfl) ?_
        clear H a; intro a H
        refine e_skip H (wanted_false H rfl rfl rfl rfl) rfl (by decide) ?_
        clear H a; intro a H
        refine e_skip H (wanted_false H rfl rfl rfl rfl) rfl (by decide) ?_
        clear H a; intro a H
        refine e_skip H (wanted_false H rfl rfl rfl rfl) rfl (by decide) ?_
        clear H a; intro a H
        refine e_skip H (wanted_false H rfl rfl rfl rfl) rfl (by decide) ?_
        clear H a; intro a H
        refine e_skip H (wanted_undef H rfl rfl rfl rfl) rfl (by decide) ?_
        clear H a; intro a H
        refine e_skip H (wanted_undef H rfl rfl rfl rfl) rfl (by decide) ?_
        clear H a; intro a H
        refine e_skip H (wanted_undef H rfl rfl rfl rfl) rfl (by decide) ?_
        clear H a; intro a H
        refine e_skip H (wanted_undef H rfl rfl rfl rfl) rfl (by decide) ?_
        clear H a; intro a H
        refine e_skip H (wanted_undef H rfl rfl rfl rfl) rfl (by decide) ?_
        clear H a; intro a H
        refine e_skip H (wanted_undef H rfl rfl rfl rfl) rfl (by decide) ?_
        clear H a; intro a H
        refine e_skip H (wanted_undef H rfl rfl rfl rfl) rfl (by decide) ?_
        clear H a; intro a H
        refine e_skip H (wanted_false H rfl rfl rfl rfl) rfl (by decide) ?_
        clear H a; intro a H
        refine e_op H rfl rfl (by decide) (x_pickT H rfl rfl rfl) ?_
        clear H a; intro a H
        refine e_nil (hR.out _ _ ?_)
        clear hR R
        have hba : badAck (akC (opn l 2)) = true := by unfold badAck; simp [h1]
        rw [hba]
        exact ⟨rfl, H.sub ⟨rfl, rfl, rfl, rfl, trivial⟩, rfl⟩
      · skip
        skip
        refine e_region (fun R hR => ?_)
        refine e_op H rfl rfl (by decide) (x_move H rfl rfl) ?_
        clear H a; intro a H
        refine e_callq H rfl rfl (by decide) rfl rfl (Try.call82 _) (rEnd_any gr q _ _ w2 Qd2) ?_
        clear H a
        rintro e w3 ⟨rfl, rfl⟩
        refine ⟨_, rfl, fun a H => ?_⟩
        refine e_op H rfl rfl (by decide) (x_binI H rfl rfl rfl (b_neq (b := false) (bne_f (by omega)))) ?_
        clear H a; intro a H
        refine e_op H rfl rfl (by decide) (x_move H rfl rfl) ?_
        clear H a; intro a H
        refine e_opg H (wanted_true H rfl rfl rfl rfl) rfl (by decide) (x_move H rfl rfl) ?_
        clear H a; intro a H
        refine e_opg H (wanted_true H rfl rfl rfl rfl) rfl (by decide) (x_builtin H rfl rfl (fun cs => len_sl Try.underlying22)) ?_
        clear H a; intro a H
        refine e_opg H (wanted_true H rfl rfl rfl rfl) rfl (by decide) (x_binI H rfl rfl rfl (b_gtr (b := false) (dec_f (by omega)))) ?_
        clear H a; intro a H
        refine e_opg H (wanted_true H rfl rfl rfl rfl) rfl (by decide) (x_move H rfl rfl) ?_
        clear H a; intro a H
        refine e_skip H (wanted_false H rfl rfl rfl rfl) rfl (by decide) ?_
        clear H a; intro a H
        refine e_skip H (wanted_false H rfl rfl rfl rfl) rfl (by decide) ?_
        clear H a; intro a H
        refine e_skip H (wanted_false H rfl rfl rfl rfl) rfl (by decide) ?_
        clear H a; intro a H
        refine e_skip H (wanted_false H rfl rfl rfl rfl) rfl (by decide) ?_
        clear H a; intro a H
        refine e_skip H (wanted_false H rfl rfl rfl rfl) rfl (by decide) ?_
        clear H a; intro a H
        refine e_skip H (wanted_false H rfl rfl rfl rfl) rfl (by decide) ?_
        clear H a; intro a H
        refine e_skip H (wanted_false H rfl rfl rfl rfl) rfl (by decide) ?_
        clear H a; intro a H
        refine e_opg H (wanted_true H rfl rfl rfl rfl) rfl (by decide) (x_pickF H rfl rfl rfl) ?_
        clear H a; intro a H
        refine e_op H rfl rfl (by decide) (x_pickF H rfl rfl rfl) ?_
        clear H a; intro a H
        refine e_nil (hR.out _ _ ?_)
        clear hR R
        have hba : badAck (akC (opn l 2)) = false := by unfold badAck; simp [h1, List.eq_nil_of_length_eq_zero h2]
        rw [hba]
        exact ⟨rfl, H.sub ⟨rfl, rfl, rfl, rfl, trivial⟩, rfl⟩
      · skip
        obtain ⟨b0, o0, hab, hcell⟩ := Ob.bs.cell ((akC (opn l 2)).body.length - 1) (by omega)
        refine e_region (fun R hR => ?_)
        refine e_op H rfl rfl (by decide) (x_move H rfl rfl) ?_
        clear H a; intro a H
        refine e_callq H rfl rfl (by decide) rfl rfl (Try.call82 _) (rEnd_any gr q _ _ w2 Qd2) ?_
        clear H a
        rintro e w3 ⟨rfl, rfl⟩
        refine ⟨_, rfl, fun a H => ?_⟩
        refine e_op H rfl rfl (by decide) (x_binI H rfl rfl rfl (b_neq (b := false) (bne_f (by omega)))) ?_
        clear H a; intro a H
        refine e_op H rfl rfl (by decide) (x_move H rfl rfl) ?_
        clear H a; intro a H
        refine e_opg H (wanted_true H rfl rfl rfl rfl) rfl (by decide) (x_move H rfl rfl) ?_
        clear H a; intro a H
        refine e_opg H (wanted_true H rfl rfl rfl rfl) rfl (by decide) (x_builtin H rfl rfl (fun cs => len_sl Try.underlying22)) ?_
        clear H a; intro a H
        refine e_opg H (wanted_true H rfl rfl rfl rfl) rfl (by decide) (x_binI H rfl rfl rfl (b_gtr (b := true) (dec_t (by omega)))) ?_
        clear H a; intro a H
        refine e_opg H (wanted_true H rfl rfl rfl rfl) rfl (by decide) (x_move H rfl rfl) ?_
        clear H a; intro a H
        refine e_opg H (wanted_true H rfl rfl rfl rfl) rfl (by decide) (x_move H rfl rfl) ?_
        clear H a; intro a H
        refine e_opg H (wanted_true H rfl rfl rfl rfl) rfl (by decide) (x_move H rfl rfl) ?_
        clear H a; intro a H
        refine e_opg H (wanted_true H rfl rfl rfl rfl) rfl (by decide) (x_builtin H rfl rfl (fun cs => len_sl Try.underlying22)) ?_
        clear H a; intro a H
        refine e_opg H (wanted_true H rfl rfl rfl rfl) rfl (by decide) (x_binI H rfl rfl rfl (b_sub (z := (((akC (opn l 2)).body.length - 1 : Nat) : Int)) (by rw [IntKind.wrap_i64]; omega))) ?_
        clear H a; intro a H
        rw [hab] at H
        refine e_opg H (wanted_true H rfl rfl rfl rfl) rfl (by decide) (x_indexAddr H rfl rfl rfl (i_sl (m := (akC (opn l 2)).body.length - 1) Try.underlying22 Try.sizeOf5 rfl (by omega))) ?_
        clear H a; intro a H
        refine e_opg H (wanted_true H rfl rfl rfl rfl) rfl (by decide) (x_load H rfl rfl (l_cell Try.isAgg5 (hcell))) ?_
        clear H a; intro a H
        refine e_opg H (wanted_true H rfl rfl rfl rfl) rfl (by decide) (x_binI H rfl rfl rfl (b_eql (b := true) (beq_t (by rw [nb_nn]; omega)))) ?_
        clear H a; intro a H
        refine e_opg H (wanted_true H rfl rfl rfl rfl) rfl (by decide) (x_pickT H rfl rfl rfl) ?_
        clear H a; intro a H
        refine e_op H rfl rfl (by decide) (x_pickF H rfl rfl rfl) ?_
        clear H a; intro a H
        refine e_nil (hR.out _ _ ?_)
        clear hR R
        rw [← hab] at H
        have hba : badAck (akC (opn l 2)) = true := by unfold badAck; simp [h3, List.length_pos_iff.1 h2]
        rw [hba]
        exact ⟨rfl, H.sub ⟨rfl, rfl, rfl, rfl, trivial⟩, rfl⟩
      · skip
        obtain ⟨b0, o0, hab, hcell⟩ := Ob.bs.cell ((akC (opn l 2)).body.length - 1) (by omega)
        refine e_region (fun R hR => ?_)
        refine e_op H rfl rfl (by decide) (x_move H rfl rfl) ?_
        clear H a; intro a H
        refine e_callq H rfl rfl (by decide) rfl rfl (Try.call82 _) (rEnd_any gr q _ _ w2 Qd2) ?_
        clear H a
        rintro e w3 ⟨rfl, rfl⟩
        refine ⟨_, rfl, fun a H => ?_⟩
        refine e_op H rfl rfl (by decide) (x_binI H rfl rfl rfl (b_neq (b := false) (bne_f (by omega)))) ?_
        clear H a; intro a H
        refine e_op H rfl rfl (by decide) (x_move H rfl rfl) ?_
        clear H a; intro a H
        refine e_opg H (wanted_true H rfl rfl rfl rfl) rfl (by decide) (x_move H rfl rfl) ?_
        clear H a; intro a H
        refine e_opg H (wanted_true H rfl rfl rfl rfl) rfl (by decide) (x_builtin H rfl rfl (fun cs => len_sl Try.underlying22)) ?_
        clear H a; intro a H
        refine e_opg H (wanted_true H rfl rfl rfl rfl) rfl (by decide) (x_binI H rfl rfl rfl (b_gtr (b := true) (dec_t (by omega)))) ?_
        clear H a; intro a H
        refine e_opg H (wanted_true H rfl rfl rfl rfl) rfl (by decide) (x_move H rfl rfl) ?_
        clear H a; intro a H
        refine e_opg H (wanted_true H rfl rfl rfl rfl) rfl (by decide) (x_move H rfl rfl) ?_
        clear H a; intro a H
        refine e_opg H (wanted_true H rfl rfl rfl rfl) rfl (by decide) (x_move H rfl rfl) ?_
        clear H a; intro a H
        refine e_opg H (wanted_true H rfl rfl rfl rfl) rfl (by decide) (x_builtin H rfl rfl (fun cs => len_sl Try.underlying22)) ?_
        clear H a; intro a H
        refine e_opg H (wanted_true H rfl rfl rfl rfl) rfl (by decide) (x_binI H rfl rfl rfl (b_sub (z := (((akC (opn l 2)).body.length - 1 : Nat) : Int)) (by rw [IntKind.wrap_i64]; omega))) ?_
        clear H a; intro a H
        rw [hab] at H
        refine e_opg H (wanted_true H rfl rfl rfl rfl) rfl (by decide) (x_indexAddr H rfl rfl rfl (i_sl (m := (akC (opn l 2)).body.length - 1) Try.underlying22 Try.sizeOf5 rfl (by omega))) ?_
        clear H a; intro a H
        refine e_opg H (wanted_true H rfl rfl rfl rfl) rfl (by decide) (x_load H rfl rfl (l_cell Try.isAgg5 (hcell))) ?_
        clear H a; intro a H
        refine e_opg H (wanted_true H rfl rfl rfl rfl) rfl (by decide) (x_binI H rfl rfl rfl (b_eql (b := false) (beq_f (by rw [nb_nn]; omega)))) ?_
        clear H a; intro a H
        refine e_opg H (wanted_true H rfl rfl rfl rfl) rfl (by decide) (x_pickT H rfl rfl rfl) ?_
        clear H a; intro a H
        refine e_op H rfl rfl (by decide) (x_pickF H rfl rfl rfl) ?_
        clear H a; intro a H
        refine e_nil (hR.out _ _ ?_)
        clear hR R
        rw [← hab] at H
        have hba : badAck (akC (opn l 2)) = false := by unfold badAck; simp [h1, h3]
        rw [hba]
        exact ⟨rfl, H.sub ⟨rfl, rfl, rfl, rfl, trivial⟩, rfl⟩
theorem sack_nil (v : Value) (w0 : World) : Calls Try.prog 53 #[.pointer none, v] w0 fun e w' => e = .returned (.int .i64 1) ∧ w' = w0 := by
  refine calls_has (args := [.pointer none, v]) Try.func53 rfl Try.ntmps53 (Nat.le_of_ble_eq_true rfl) (fun a H => ?_)
  simp only [argl, Nat.reduceAdd] at H
  refine wp_seq_k (fun K1 hK1 => ?_)
  refine e_region (fun R hR => ?_)
  refine e_op H rfl rfl (by decide) (x_assign H rfl rfl) ?_
  clear H a; intro a H
  refine e_nil (hR.out _ _ ?_)
  clear hR R
  refine hK1 _ _ ?_
  clear hK1 K1
  refine wp_seq_k (fun K2 hK2 => ?_)
  refine wp_seq_k (fun K3 hK3 => ?_)
  refine e_region (fun R hR => ?_)
  refine e_op H rfl rfl (by decide) (x_move H rfl rfl) ?_
  clear H a; intro a H
  refine e_op H rfl rfl (by decide) (x_bin H rfl rfl rfl (by rw [eqGuard_at_pointer]; rfl) (b_pnil (c := true) Try.underlying64 rfl)) ?_
  clear H a; intro a H
  refine e_nil (hR.out _ _ ?_)
  clear hR R
  refine hK3 _ _ ?_
  clear hK3 K3
  refine c_true H rfl ?_
  refine wp_seq_k (fun K4 hK4 => ?_)
  refine e_region (fun R hR => ?_)
  refine e_op H rfl rfl (by decide) (x_assign H rfl rfl) ?_
  clear H a; intro a H
  refine e_nil (hR.out _ _ ?_)
  clear hR R
  refine hK4 _ _ ?_
  clear hK4 K4
  refine wp_ret ?_
  refine t_ret ?_
  exact ret1 H rfl rfl ⟨rfl, rfl⟩
end Go.Proofs.Ytknllmcpogoeoaa
