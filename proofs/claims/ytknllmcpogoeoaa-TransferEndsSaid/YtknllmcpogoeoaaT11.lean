/- A receiver takes a packet: walked. -/
import Derived.Test.YtknllmcpogoeoaaT10
namespace Go.Proofs.Ytknllmcpogoeoaa
open Go.RowKit
set_option linter.unusedVariables false
set_option linter.unusedSimpArgs false
set_option maxRecDepth 100000
theorem pkA_any (g q : Nat) (o : Opn) (w : World) (R : Rd w g q o.left 0) : Calls Try.prog 78 #[.pointer (some ⟨g, 0, none⟩), .int .u64 65535] w (RsPost (pkA o) .u64 g q w) := rUint_any g q o.left 0 65535 w R (by omega)
theorem pkB_any (g q : Nat) (o : Opn) (w : World) (R : Rd w g q (pkA o).left (pkA o).err) : Calls Try.prog 78 #[.pointer (some ⟨g, 0, none⟩), .int .u64 1023] w (RsPost (pkB o) .u64 g q w) := rUint_any g q _ _ 1023 w R (by omega)
theorem pkC_any (g q : Nat) (o : Opn) (w : World) (R : Rd w g q (pkB o).left (pkB o).err) : Calls Try.prog 79 #[.pointer (some ⟨g, 0, none⟩), .int .i64 64] w (RbPost (pkC o) g q w) := rBytes_any g q _ _ 64 w R (by omega) (by omega)
theorem pkA_rng (o : Opn) : 0 ≤ (pkA o).val ∧ (pkA o).val ≤ 65535 := rsU_rng _ _ _
theorem pkB_rng (o : Opn) : 0 ≤ (pkB o).val ∧ (pkB o).val ≤ 1023 := rsU_rng _ _ _
theorem pkC_len (o : Opn) : (pkC o).body.length ≤ 64 := by
  have := rsBytes_len (pkB o).left (pkB o).err 64 (by omega)
  unfold pkC
  omega
theorem rdPk_end {l : List UInt8} (h0 : (opn l 1).err = 0) (h : rsEnd (pkC (opn l 1)).left (pkC (opn l 1)).err ≠ 0 ∨ chunksT (pkA (opn l 1)).val.toNat ≤ (pkB (opn l 1)).val.toNat) : (rdPk l).err = 6 := by
  unfold rdPk rdPk2
  rw [if_neg (by simp [h0])]
  by_cases h1 : rsEnd (pkC (opn l 1)).left (pkC (opn l 1)).err ≠ 0
  · rw [if_pos h1]
  · rw [if_neg h1, if_pos (h.resolve_left h1)]
theorem rdPk_len {l : List UInt8} (h0 : (opn l 1).err = 0) (h : ¬ (rsEnd (pkC (opn l 1)).left (pkC (opn l 1)).err ≠ 0 ∨ chunksT (pkA (opn l 1)).val.toNat ≤ (pkB (opn l 1)).val.toNat)) (h2 : (pkC (opn l 1)).body.length ≠ min (((pkB (opn l 1)).val.toNat + 1) * 64) (pkA (opn l 1)).val.toNat - (pkB (opn l 1)).val.toNat * 64) : (rdPk l).err = 6 := by
  unfold rdPk rdPk2
  rw [if_neg (by simp [h0]), if_neg (fun e => h (.inl e)), if_neg (fun e => h (.inr e)), if_pos h2]
theorem rdPk_ok {l : List UInt8} (h0 : (opn l 1).err = 0) (h : ¬ (rsEnd (pkC (opn l 1)).left (pkC (opn l 1)).err ≠ 0 ∨ chunksT (pkA (opn l 1)).val.toNat ≤ (pkB (opn l 1)).val.toNat)) (h2 : (pkC (opn l 1)).body.length = min (((pkB (opn l 1)).val.toNat + 1) * 64) (pkA (opn l 1)).val.toNat - (pkB (opn l 1)).val.toNat * 64) :
    rdPk l = ⟨0, (opn l 1).id, (pkA (opn l 1)).val.toNat, (pkB (opn l 1)).val.toNat, (pkC (opn l 1)).body⟩ := by
  unfold rdPk rdPk2
  rw [if_neg (by simp [h0]), if_neg (fun e => h (.inl e)), if_neg (fun e => h (.inr e)), if_neg (by simp [h2])]
/-- what a receiver's In leaves -/
def InPost (r : Rcv) (l : List UInt8) (B g : Nat) (v : Value) (w0 : World) (e : Ending) (w' : World) : Prop :=
  e = .returned (.int .i64 ((r.in_ l).1 : Int)) ∧ ∃ v', Rv w' B g v' (r.in_ l).2 ∧ Frm (g :: v.ownBlock.toList) w0 w' ∧ (v'.ownBlock = v.ownBlock ∨ ∃ k, v'.ownBlock = some k ∧ w0.heap.size ≤ k) ∧ ((r.in_ l).1 ≠ 0 → Ext w0 w')
theorem inPost_bad {r : Rcv} {l : List UInt8} {B g : Nat} {v : Value} {w0 w' : World} {k : Nat} (h : r.in_ l = (k, r)) (R0 : Rv w0 B g v r) (E : Ext w0 w') : InPost r l B g v w0 (.returned (.int .i64 (k : Int))) w' := by
  unfold InPost
  rw [h]
  exact ⟨rfl, v, R0.ext E, E.frm, .inl rfl, fun _ => E⟩
theorem in_any (B g : Nat) (v : Value) (r : Rcv) (ad : Option Addr) (n c : Nat) (l : List UInt8) (w0 : World) (R0 : Rv w0 B g v r) (hb : Bs w0 ad n l) (hz : ad = none → c = 0) (hnc : n ≤ c) (hn : n ≤ 140737488351232) :
    Calls Try.prog 56 #[.pointer (some ⟨g, 0, none⟩), .slice ad n c] w0 (InPost r l B g v w0) := by
  obtain ⟨da, dc, rfl, hO⟩ := R0.data
  have hn1 := chunks_le R0.dlt
  have hdlt := R0.dlt
  have hlen := R0.len
  have hidl := R0.idlt
  have hdc := ow_le hO
  have hcb := pkC_len (opn l 1)
  have hra := pkA_rng (opn l 1)
  have hrb := pkB_rng (opn l 1)
  have hgl := R0.blk.lt
  have hBl := R0.low
  by_cases ho : (opn l 1).err ≠ 0
  · skip
    refine calls_has (args := [.pointer (some ⟨g, 0, none⟩), .slice ad n c]) Try.func56 rfl Try.ntmps56 (Nat.le_of_ble_eq_true rfl) (fun a H => ?_)
    simp only [argl, Nat.reduceAdd] at H
    refine wp_seq_k (fun K1 hK1 => ?_)
    refine e_region (fun R hR => ?_)
    refine e_op H rfl rfl (by decide) (x_assign H rfl rfl) ?_
    clear H a; intro a H
    refine e_nil (hR.out _ _ ?_)
    clear hR R
    refine hK1 _ _ ?_
    clear hK1 K1
    refine wp_seq_k (fun K2 hK2 => ?_)
    refine wp_seq_k (fun K3 hK3 => ?_)
    refine e_region (fun R hR => ?_)
    refine e_op H rfl rfl (by decide) (x_move H rfl rfl) ?_
    clear H a; intro a H
    refine e_op H rfl rfl (by decide) (x_bin H rfl rfl rfl (by rw [eqGuard_at_pointer]; rfl) (b_pnil (c := false) Try.underlying65 rfl)) ?_
    clear H a; intro a H
    refine e_nil (hR.out _ _ ?_)
    clear hR R
    refine hK3 _ _ ?_
    clear hK3 K3
    refine c_false H rfl ?_
    refine wp_skip ?_
    refine hK2 _ _ ?_
    clear hK2 K2
    refine wp_seq_k (fun K4 hK4 => ?_)
    refine e_region (fun R hR => ?_)
    refine e_op H rfl rfl (by decide) (x_move H rfl rfl) ?_
    clear H a; intro a H
    refine e_callq H rfl rfl (by decide) rfl rfl (Try.call112 _) (open_any ad n c l 1 w0 hb hz hnc hn) ?_
    clear H a
    rintro e w1 ⟨E1, hbad, _⟩
    obtain rfl := hbad ho
    refine ⟨_, rfl, fun a H => ?_⟩
    refine e_op H rfl rfl (by decide) (x_move H rfl rfl) ?_
    clear H a; intro a H
    refine e_op H rfl rfl (by decide) (x_extract H rfl rfl rfl) ?_
    clear H a; intro a H
    refine e_op H rfl rfl (by decide) (x_extract H rfl rfl rfl) ?_
    clear H a; intro a H
    refine e_op H rfl rfl (by decide) (x_extract H rfl rfl rfl) ?_
    clear H a; intro a H
    refine e_op H rfl rfl (by decide) (x_assign H rfl rfl) ?_
    clear H a; intro a H
    refine e_op H rfl rfl (by decide) (x_assign H rfl rfl) ?_
    clear H a; intro a H
    refine e_op H rfl rfl (by decide) (x_assign H rfl rfl) ?_
    clear H a; intro a H
    refine e_nil (hR.out _ _ ?_)
    clear hR R
    refine hK4 _ _ ?_
    clear hK4 K4
    refine wp_seq_k (fun K5 hK5 => ?_)
    refine wp_seq_k (fun K6 hK6 => ?_)
    refine e_region (fun R hR => ?_)
    refine e_op H rfl rfl (by decide) (x_move H rfl rfl) ?_
    clear H a; intro a H
    refine e_op H rfl rfl (by decide) (x_binI H rfl rfl rfl (b_neq (b := true) (bne_t (by omega)))) ?_
    clear H a; intro a H
    refine e_nil (hR.out _ _ ?_)
    clear hR R
    refine hK6 _ _ ?_
    clear hK6 K6
    refine c_true H rfl ?_
    refine wp_seq_k (fun K7 hK7 => ?_)
    refine e_region (fun R hR => ?_)
    refine e_op H rfl rfl (by decide) (x_move H rfl rfl) ?_
    clear H a; intro a H
    refine e_op H rfl rfl (by decide) (x_assign H rfl rfl) ?_
    clear H a; intro a H
    refine e_nil (hR.out _ _ ?_)
    clear hR R
    refine hK7 _ _ ?_
    clear hK7 K7
    refine wp_ret ?_
    refine t_ret ?_
    have he : (rdPk l).err = (opn l 1).err := by unfold rdPk; rw [if_pos ho]
    have hs : r.in_ l = ((opn l 1).err, r) := by rw [Rcv.of_bad l (by rw [he]; exact ho), he]
    exact ret1 H rfl rfl (inPost_bad hs R0 E1)
  · replace ho : (opn l 1).err = 0 := by omega
    refine calls_has (args := [.pointer (some ⟨g, 0, none⟩), .slice ad n c]) Try.func56 rfl Try.ntmps56 (Nat.le_of_ble_eq_true rfl) (fun a H => ?_)
    simp only [argl, Nat.reduceAdd] at H
    refine wp_seq_k (fun K1 hK1 => ?_)
    refine e_region (fun R hR => ?_)
    refine e_op H rfl rfl (by decide) (x_assign H rfl rfl) ?_
    clear H a; intro a H
    refine e_nil (hR.out _ _ ?_)
    clear hR R
    refine hK1 _ _ ?_
    clear hK1 K1
    refine wp_seq_k (fun K2 hK2 => ?_)
    refine wp_seq_k (fun K3 hK3 => ?_)
    refine e_region (fun R hR => ?_)
    refine e_op H rfl rfl (by decide) (x_move H rfl rfl) ?_
    clear H a; intro a H
    refine e_op H rfl rfl (by decide) (x_bin H rfl rfl rfl (by rw [eqGuard_at_pointer]; rfl) (b_pnil (c := false) Try.underlying65 rfl)) ?_
    clear H a; intro a H
    refine e_nil (hR.out _ _ ?_)
    clear hR R
    refine hK3 _ _ ?_
    clear hK3 K3
    refine c_false H rfl ?_
    refine wp_skip ?_
    refine hK2 _ _ ?_
    clear hK2 K2
    refine wp_seq_k (fun K4 hK4 => ?_)
    refine e_region (fun R hR => ?_)
    refine e_op H rfl rfl (by decide) (x_move H rfl rfl) ?_
    clear H a; intro a H
    refine e_callq H rfl rfl (by decide) rfl rfl (Try.call112 _) (open_any ad n c l 1 w0 hb hz hnc hn) ?_
    clear H a
    rintro e w1 ⟨E1, _, hgood⟩
    obtain ⟨gr, q, rfl, Qd, hgr, hq⟩ := hgood ho
    refine ⟨_, rfl, fun a H => ?_⟩
    refine e_op H rfl rfl (by decide) (x_move H rfl rfl) ?_
    clear H a; intro a H
    refine e_op H rfl rfl (by decide) (x_extract H rfl rfl rfl) ?_
    clear H a; intro a H
    refine e_op H rfl rfl (by decide) (x_extract H rfl rfl rfl) ?_
    clear H a; intro a H
    refine e_op H rfl rfl (by decide) (x_extract H rfl rfl rfl) ?_
    clear H a; intro a H
    refine e_op H rfl rfl (by decide) (x_assign H rfl rfl) ?_
    clear H a; intro a H
    refine e_op H rfl rfl (by decide) (x_assign H rfl rfl) ?_
    clear H a; intro a H
    refine e_op H rfl rfl (by decide) (x_assign H rfl rfl) ?_
    clear H a; intro a H
    refine e_nil (hR.out _ _ ?_)
    clear hR R
    refine hK4 _ _ ?_
    clear hK4 K4
    refine wp_seq_k (fun K5 hK5 => ?_)
    refine wp_seq_k (fun K6 hK6 => ?_)
    refine e_region (fun R hR => ?_)
    refine e_op H rfl rfl (by decide) (x_move H rfl rfl) ?_
    clear H a; intro a H
    refine e_op H rfl rfl (by decide) (x_binI H rfl rfl rfl (b_neq (b := false) (rfl))) ?_
    clear H a; intro a H
    refine e_nil (hR.out _ _ ?_)
    clear hR R
    refine hK6 _ _ ?_
    clear hK6 K6
    refine c_false H rfl ?_
    refine wp_skip ?_
    refine hK5 _ _ ?_
    clear hK5 K5
    refine wp_seq_k (fun K7 hK7 => ?_)
    refine e_region (fun R hR => ?_)
    refine e_op H rfl rfl (by decide) (x_move H rfl rfl) ?_
    clear H a; intro a H
    refine e_callq H rfl rfl (by decide) rfl rfl (Try.call78 _) (pkA_any gr q (opn l 1) w1 Qd) ?_
    clear H a
    rintro e w2 ⟨rfl, Qd2, Fr2⟩
    refine ⟨_, rfl, fun a H => ?_⟩
    have E2 := Fr2.ext E1 (by simp; omega)
    clear Fr2 Qd E1
    refine e_op H rfl rfl (by decide) (x_conv H rfl rfl (c_int (z := (((pkA (opn l 1)).val.toNat : Nat) : Int)) Try.underlying56 Try.underlying3 (by rw [IntKind.wrap_i64]; omega))) ?_
    clear H a; intro a H
    refine e_op H rfl rfl (by decide) (x_assign H rfl rfl) ?_
    clear H a; intro a H
    refine e_nil (hR.out _ _ ?_)
    clear hR R
    refine hK7 _ _ ?_
    clear hK7 K7
    refine wp_seq_k (fun K8 hK8 => ?_)
    refine e_region (fun R hR => ?_)
    refine e_op H rfl rfl (by decide) (x_move H rfl rfl) ?_
    clear H a; intro a H
    refine e_callq H rfl rfl (by decide) rfl rfl (Try.call78 _) (pkB_any gr q (opn l 1) w2 Qd2) ?_
    clear H a
    rintro e w3 ⟨rfl, Qd3, Fr3⟩
    refine ⟨_, rfl, fun a H => ?_⟩
    have E3 := Fr3.ext E2 (by simp; omega)
    clear Fr3 Qd2 E2
    refine e_op H rfl rfl (by decide) (x_conv H rfl rfl (c_int (z := (((pkB (opn l 1)).val.toNat : Nat) : Int)) Try.underlying56 Try.underlying3 (by rw [IntKind.wrap_i64]; omega))) ?_
    clear H a; intro a H
    refine e_op H rfl rfl (by decide) (x_assign H rfl rfl) ?_
    clear H a; intro a H
    refine e_nil (hR.out _ _ ?_)
    clear hR R
    refine hK8 _ _ ?_
    clear hK8 K8
    refine wp_seq_k (fun K9 hK9 => ?_)
    refine e_region (fun R hR => ?_)
    refine e_op H rfl rfl (by decide) (x_move H rfl rfl) ?_
    clear H a; intro a H
    refine e_callq H rfl rfl (by decide) rfl rfl (Try.call79 _) (pkC_any gr q (opn l 1) w3 Qd3) ?_
    clear H a
    rintro e w4 ⟨ab, cb, rfl, Ob, Qd4, Fr4⟩
    refine ⟨_, rfl, fun a H => ?_⟩
    replace Ob := Ob.mono E3.sz
    have E4 := Fr4.ext E3 (by simp; omega)
    clear Fr4 Qd3 E3
    refine e_op H rfl rfl (by decide) (x_assign H rfl rfl) ?_
    clear H a; intro a H
    refine e_nil (hR.out _ _ ?_)
    clear hR R
    refine hK9 _ _ ?_
    clear hK9 K9
    refine wp_seq_k (fun K10 hK10 => ?_)
    refine wp_seq_k (fun K11 hK11 => ?_)
    refine Code.wp_mono (Q := fun e a w => e = Exit.normal ∧ Has a 119 [(0, .pointer (some ⟨g, 0, none⟩)), (6, .int .u32 ((opn l 1).id : Int)), (8, .int .i64 (((pkA (opn l 1)).val.toNat : Nat) : Int)), (9, .int .i64 (((pkB (opn l 1)).val.toNat : Nat) : Int)), (10, .slice ab (pkC (opn l 1)).body.length cb), (40, .bool (decide (rsEnd (pkC (opn l 1)).left (pkC (opn l 1)).err ≠ 0 ∨ chunksT (pkA (opn l 1)).val.toNat ≤ (pkB (opn l 1)).val.toNat)))] ∧ w = w4) (fun e a w hM => ?_) ?_
    · skip
      clear H
      obtain ⟨rfl, H, hww⟩ := hM
      rw [hww]
      clear hww w
      refine hK11 _ _ ?_
      clear hK11 K11
      refine c_split H rfl (fun ht => ?_) (fun ht => ?_)
      · skip
        have hbd := of_decide_eq_true ht
        have hpe := rdPk_end ho hbd
        have hs : r.in_ l = (6, r) := by rw [Rcv.of_bad l (by omega), hpe]
        refine wp_seq_k (fun K12 hK12 => ?_)
        refine e_region (fun R hR => ?_)
        refine e_op H rfl rfl (by decide) (x_assign H rfl rfl) ?_
        clear H a; intro a H
        refine e_nil (hR.out _ _ ?_)
        clear hR R
        refine hK12 _ _ ?_
        clear hK12 K12
        refine wp_ret ?_
        refine t_ret ?_
        exact ret1 H rfl rfl (inPost_bad hs R0 E4)
      · skip
        have hbd := of_decide_eq_false ht
        have hB1 : (pkB (opn l 1)).val.toNat * 64 ≤ (pkA (opn l 1)).val.toNat := by
          have h : ¬ chunksT (pkA (opn l 1)).val.toNat ≤ (pkB (opn l 1)).val.toNat := fun e => hbd (.inr e)
          unfold chunksT at h
          omega
        refine wp_skip ?_
        refine hK10 _ _ ?_
        clear hK10 K10
        refine wp_seq_k (fun K13 hK13 => ?_)
        refine e_region (fun R hR => ?_)
        refine e_op H rfl rfl (by decide) (x_move H rfl rfl) ?_
        clear H a; intro a H
        refine e_op H rfl rfl (by decide) (x_move H rfl rfl) ?_
        clear H a; intro a H
        refine e_callp H rfl rfl (by decide) rfl rfl (Try.call113 _) (bounds_any (pkA (opn l 1)).val.toNat (pkB (opn l 1)).val.toNat w4 (by omega) (by omega)) ?_
        clear H a; intro a H
        refine e_op H rfl rfl (by decide) (x_move H rfl rfl) ?_
        clear H a; intro a H
        refine e_op H rfl rfl (by decide) (x_extract H rfl rfl rfl) ?_
        clear H a; intro a H
        refine e_op H rfl rfl (by decide) (x_extract H rfl rfl rfl) ?_
        clear H a; intro a H
        refine e_op H rfl rfl (by decide) (x_assign H rfl rfl) ?_
        clear H a; intro a H
        refine e_op H rfl rfl (by decide) (x_assign H rfl rfl) ?_
        clear H a; intro a H
        refine e_nil (hR.out _ _ ?_)
        clear hR R
        refine hK13 _ _ ?_
        clear hK13 K13
        refine wp_seq_k (fun K14 hK14 => ?_)
        refine wp_seq_k (fun K15 hK15 => ?_)
        refine e_region (fun R hR => ?_)
        refine e_op H rfl rfl (by decide) (x_move H rfl rfl) ?_
        clear H a; intro a H
        refine e_op H rfl rfl (by decide) (x_builtin H rfl rfl (fun cs => len_sl Try.underlying22)) ?_
        clear H a; intro a H
        refine e_op H rfl rfl (by decide) (x_move H rfl rfl) ?_
        clear H a; intro a H
        refine e_op H rfl rfl (by decide) (x_move H rfl rfl) ?_
        clear H a; intro a H
        refine e_op H rfl rfl (by decide) (x_binI H rfl rfl rfl (b_sub (z := ((min (((pkB (opn l 1)).val.toNat + 1) * 64) (pkA (opn l 1)).val.toNat - (pkB (opn l 1)).val.toNat * 64 : Nat) : Int)) (by rw [IntKind.wrap_i64]; omega))) ?_
        clear H a; intro a H
        refine e_op H rfl rfl (by decide) (x_binI H rfl rfl rfl (b_neq (b := (((pkC (opn l 1)).body.length : Int) != ((min (((pkB (opn l 1)).val.toNat + 1) * 64) (pkA (opn l 1)).val.toNat - (pkB (opn l 1)).val.toNat * 64 : Nat) : Int))) (rfl))) ?_
        clear H a; intro a H
        refine e_nil (hR.out _ _ ?_)
        clear hR R
        refine hK15 _ _ ?_
        clear hK15 K15
        refine c_split H rfl (fun ht => ?_) (fun ht => ?_)
        · skip
          have hbl : (pkC (opn l 1)).body.length ≠ min (((pkB (opn l 1)).val.toNat + 1) * 64) (pkA (opn l 1)).val.toNat - (pkB (opn l 1)).val.toNat * 64 := by have h := ht; simp only [bne_iff_ne, ne_eq] at h; omega
          have hpe := rdPk_len ho hbd hbl
          have hs : r.in_ l = (6, r) := by rw [Rcv.of_bad l (by omega), hpe]
          refine wp_seq_k (fun K16 hK16 => ?_)
          refine e_region (fun R hR => ?_)
          refine e_op H rfl rfl (by decide) (x_assign H rfl rfl) ?_
          clear H a; intro a H
          refine e_nil (hR.out _ _ ?_)
          clear hR R
          refine hK16 _ _ ?_
          clear hK16 K16
          refine wp_ret ?_
          refine t_ret ?_
          exact ret1 H rfl rfl (inPost_bad hs R0 E4)
        · skip
          have hbl : (pkC (opn l 1)).body.length = min (((pkB (opn l 1)).val.toNat + 1) * 64) (pkA (opn l 1)).val.toNat - (pkB (opn l 1)).val.toNat * 64 := by have h := ht; simp only [bne_eq_false_iff_eq] at h; omega
          have hpk := rdPk_ok ho hbd hbl
          refine wp_skip ?_
          refine hK14 _ _ ?_
          clear hK14 K14
          refine wp_seq_k (fun K17 hK17 => ?_)
          refine wp_seq_k (fun K18 hK18 => ?_)
          refine e_region (fun R hR => ?_)
          refine e_op H rfl rfl (by decide) (x_move H rfl rfl) ?_
          clear H a; intro a H
          refine e_op H rfl rfl (by decide) (x_move H rfl rfl) ?_
          clear H a; intro a H
          refine e_op H rfl rfl (by decide) (x_nilCheck H rfl rfl) ?_
          clear H a; intro a H
          refine e_op H rfl rfl (by decide) (x_fieldAddr H rfl rfl (fa181_0 _ _)) ?_
          clear H a; intro a H
          refine e_op H rfl rfl (by decide) (x_load H rfl rfl (l_cell Try.isAgg52 ((R0.ext E4).blk.at_ (i := 0) rfl))) ?_
          clear H a; intro a H
          refine e_op H rfl rfl (by decide) (x_binI H rfl rfl rfl (b_neq (b := (((opn l 1).id : Int) != (r.id : Int))) (rfl))) ?_
          clear H a; intro a H
          refine e_nil (hR.out _ _ ?_)
          clear hR R
          refine hK18 _ _ ?_
          clear hK18 K18
          refine c_split H rfl (fun ht => ?_) (fun ht => ?_)
          · skip
            have hid : (opn l 1).id ≠ r.id := by have h := ht; simp only [bne_iff_ne, ne_eq] at h; omega
            have hs : r.in_ l = (13, r) := by unfold Rcv.in_; rw [hpk, if_neg (by simp), if_pos hid]
            refine wp_seq_k (fun K19 hK19 => ?_)
            refine e_region (fun R hR => ?_)
            refine e_op H rfl rfl (by decide) (x_assign H rfl rfl) ?_
            clear H a; intro a H
            refine e_nil (hR.out _ _ ?_)
            clear hR R
            refine hK19 _ _ ?_
            clear hK19 K19
            refine wp_ret ?_
            refine t_ret ?_
            exact ret1 H rfl rfl (inPost_bad hs R0 E4)
          · skip
            have hid : (opn l 1).id = r.id := by have h := ht; simp only [bne_eq_false_iff_eq] at h; omega
            refine wp_skip ?_
            refine hK17 _ _ ?_
            clear hK17 K17
            refine wp_seq_k (fun K20 hK20 => ?_)
            refine wp_seq_k (fun K21 hK21 => ?_)
            refine Code.wp_mono (Q := fun e a w => e = Exit.normal ∧ Has a 119 [(0, .pointer (some ⟨g, 0, none⟩)), (6, .int .u32 ((opn l 1).id : Int)), (8, .int .i64 (((pkA (opn l 1)).val.toNat : Nat) : Int)), (9, .int .i64 (((pkB (opn l 1)).val.toNat : Nat) : Int)), (10, .slice ab (pkC (opn l 1)).body.length cb), (11, .int .i64 (((pkB (opn l 1)).val.toNat * 64 : Nat) : Int)), (12, .int .i64 ((min (((pkB (opn l 1)).val.toNat + 1) * 64) (pkA (opn l 1)).val.toNat : Nat) : Int)), (91, .bool (decide (r.clash (⟨0, (opn l 1).id, (pkA (opn l 1)).val.toNat, (pkB (opn l 1)).val.toNat, (pkC (opn l 1)).body⟩ : Pk))))] ∧ w = w4) (fun e a w hM => ?_) ?_
            · skip
              clear H
              obtain ⟨rfl, H, hww⟩ := hM
              rw [hww]
              clear hww w
              refine hK21 _ _ ?_
              clear hK21 K21
              refine c_split H rfl (fun ht => ?_) (fun ht => ?_)
              · skip
                have hcl : r.clash (⟨0, (opn l 1).id, (pkA (opn l 1)).val.toNat, (pkB (opn l 1)).val.toNat, (pkC (opn l 1)).body⟩ : Pk) := of_decide_eq_true ht
                have hs : r.in_ l = (14, r) := by unfold Rcv.in_; rw [hpk, if_neg (by simp), if_neg (by simp [hid]), if_pos hcl]
                refine wp_seq_k (fun K22 hK22 => ?_)
                refine e_region (fun R hR => ?_)
                refine e_op H rfl rfl (by decide) (x_assign H rfl rfl) ?_
                clear H a; intro a H
                refine e_nil (hR.out _ _ ?_)
                clear hR R
                refine hK22 _ _ ?_
                clear hK22 K22
                refine wp_ret ?_
                refine t_ret ?_
                exact ret1 H rfl rfl (inPost_bad hs R0 E4)
              · skip
                have hcl : ¬ r.clash (⟨0, (opn l 1).id, (pkA (opn l 1)).val.toNat, (pkB (opn l 1)).val.toNat, (pkC (opn l 1)).body⟩ : Pk) := of_decide_eq_false ht
                have hlk : r.known = true → (pkA (opn l 1)).val.toNat = r.data.length := fun hk => by
                  by_cases h : (pkA (opn l 1)).val.toNat = r.data.length
                  · exact h
                  · exact absurd ⟨hk, .inl h⟩ hcl
                refine wp_skip ?_
                refine hK20 _ _ ?_
                clear hK20 K20
                refine wp_seq_k (fun K23 hK23 => ?_)
                refine wp_seq_k (fun K24 hK24 => ?_)
                refine e_region (fun R hR => ?_)
                refine e_op H rfl rfl (by decide) (x_move H rfl rfl) ?_
                clear H a; intro a H
                refine e_op H rfl rfl (by decide) (x_nilCheck H rfl rfl) ?_
                clear H a; intro a H
                refine e_op H rfl rfl (by decide) (x_fieldAddr H rfl rfl (fa181_1 _ _)) ?_
                clear H a; intro a H
                refine e_op H rfl rfl (by decide) (x_load H rfl rfl (l_cell Try.isAgg4 ((R0.ext E4).blk.at_ (i := 1) rfl))) ?_
                clear H a; intro a H
                refine e_op H rfl rfl (by decide) (x_un H rfl rfl (u_not (c := (!r.known)) (rfl))) ?_
                clear H a; intro a H
                refine e_nil (hR.out _ _ ?_)
                clear hR R
                refine hK24 _ _ ?_
                clear hK24 K24
                refine Code.wp_mono (Q := fun e a w => e = Exit.normal ∧ ∃ a5 c5, Has a 119 [(0, .pointer (some ⟨g, 0, none⟩)), (9, .int .i64 (((pkB (opn l 1)).val.toNat : Nat) : Int)), (10, .slice ab (pkC (opn l 1)).body.length cb), (11, .int .i64 (((pkB (opn l 1)).val.toNat * 64 : Nat) : Int)), (12, .int .i64 ((min (((pkB (opn l 1)).val.toNat + 1) * 64) (pkA (opn l 1)).val.toNat : Nat) : Int))] ∧ Rv w B g (.slice a5 (pkA (opn l 1)).val.toNat c5) ⟨r.id, true, (if r.known then r.data else List.replicate (pkA (opn l 1)).val.toNat 0), r.has⟩ ∧ Frm (g :: (Value.slice da r.data.length dc).ownBlock.toList) w0 w ∧ ((Value.slice a5 (pkA (opn l 1)).val.toNat c5).ownBlock = (Value.slice da r.data.length dc).ownBlock ∨ ∃ k, (Value.slice a5 (pkA (opn l 1)).val.toNat c5).ownBlock = some k ∧ w0.heap.size ≤ k) ∧ Ow w w0.heap.size ab (pkC (opn l 1)).body.length cb (pkC (opn l 1)).body) (fun e a w hM => ?_) ?_
                · skip
                  clear H Ob
                  obtain ⟨rfl, a5, c5, H, R5, F5, hown, Ob⟩ := hM
                  generalize w = w5 at *
                  refine hK23 _ _ ?_
                  clear hK23 K23
                  refine wp_seq_k (fun K25 hK25 => ?_)
                  refine e_region (fun R hR => ?_)
                  obtain ⟨d5, e5, hv5, O5⟩ := R5.data
                  simp only [Value.slice.injEq] at hv5
                  obtain ⟨rfl, hd5, rfl⟩ := hv5
                  rw [← hd5] at O5
                  have h5c := ow_le O5
                  have Ob5 := Ob.bs
                  rw [hbl] at Ob5
                  obtain ⟨w6, hr6, O6, G6⟩ := copy_over w5 3 B a5 (pkA (opn l 1)).val.toNat c5 ((pkB (opn l 1)).val.toNat * 64) (min (((pkB (opn l 1)).val.toNat + 1) * 64) (pkA (opn l 1)).val.toNat - (pkB (opn l 1)).val.toNat * 64) (if r.known then r.data else List.replicate (pkA (opn l 1)).val.toNat 0) ab cb (pkC (opn l 1)).body O5 Ob5 (by omega) (c5 - (pkB (opn l 1)).val.toNat * 64)
                  refine e_op H rfl rfl (by decide) (x_move H rfl rfl) ?_
                  clear H a; intro a H
                  refine e_op H rfl rfl (by decide) (x_nilCheck H rfl rfl) ?_
                  clear H a; intro a H
                  refine e_op H rfl rfl (by decide) (x_fieldAddr H rfl rfl (fa181_2 _ _)) ?_
                  clear H a; intro a H
                  refine e_op H rfl rfl (by decide) (x_load H rfl rfl (l_cell Try.isAgg22 (R5.blk.at_ (i := 2) rfl))) ?_
                  clear H a; intro a H
                  refine e_op H rfl rfl (by decide) (x_move H rfl rfl) ?_
                  clear H a; intro a H
                  refine e_op H rfl rfl (by decide) (x_move H rfl rfl) ?_
                  clear H a; intro a H
                  refine e_op H rfl rfl (by decide) (x_slice H rfl rfl rfl rfl (sl_lh (lo := (pkB (opn l 1)).val.toNat * 64) (hi := min (((pkB (opn l 1)).val.toNat + 1) * 64) (pkA (opn l 1)).val.toNat) Try.underlying22 Try.sizeOf5 rfl rfl (by omega) (by omega))) ?_
                  clear H a; intro a H
                  refine e_op H rfl rfl (by decide) (x_move H rfl rfl) ?_
                  clear H a; intro a H
                  rw [hbl] at H
                  refine e_op H rfl rfl (by decide) (x_builtin H rfl rfl (fun cs => bi_copy hr6)) ?_
                  clear H a; intro a H
                  refine e_nil (hR.out _ _ ?_)
                  clear hR R
                  have hg5 : some g ≠ (Value.slice a5 (pkA (opn l 1)).val.toNat c5).ownBlock := own_blk_ne O5 R5.blk (by decide)
                  have RB6 := R5.blk.grown G6 hg5
                  have F6 : Frm (g :: (Value.slice da r.data.length dc).ownBlock.toList) w0 w6 := F5.grown G6 (fun k hk => by
                    rcases hown with h | ⟨k2, h, h2⟩
                    · left; rw [h] at hk; rw [hk]; simp
                    · right; rw [h] at hk; cases hk; exact h2)
                  refine hK25 _ _ ?_
                  clear hK25 K25
                  refine wp_seq_k (fun K26 hK26 => ?_)
                  refine e_region (fun R hR => ?_)
                  refine e_op H rfl rfl (by decide) (x_move H rfl rfl) ?_
                  clear H a; intro a H
                  refine e_op H rfl rfl (by decide) (x_move H rfl rfl) ?_
                  clear H a; intro a H
                  refine e_op H rfl rfl (by decide) (x_nilCheck H rfl rfl) ?_
                  clear H a; intro a H
                  refine e_op H rfl rfl (by decide) (x_fieldAddr H rfl rfl (fa181_3 _ _)) ?_
                  clear H a; intro a H
                  refine e_op H rfl rfl (by decide) (x_indexAddr H rfl rfl rfl (i_arr (m := (pkB (opn l 1)).val.toNat) Try.underlying179 Try.sizeOf4 rfl (by omega))) ?_
                  clear H a; intro a H
                  refine e_st H rfl rfl (x_store H rfl rfl rfl (st_cell rfl rfl Try.sizeOf4 (RB6.frozen _) (RB6.isSome (3 + (pkB (opn l 1)).val.toNat) (by simp only [rcvCells, List.length_cons, bools_len, hlen]; omega)))) ?_
                  refine e_nil (hR.out _ _ ?_)
                  clear hR R
                  refine hK26 _ _ ?_
                  clear hK26 K26
                  refine wp_seq_k (fun K27 hK27 => ?_)
                  refine e_region (fun R hR => ?_)
                  refine e_op H rfl rfl (by decide) (x_assign H rfl rfl) ?_
                  clear H a; intro a H
                  refine e_nil (hR.out _ _ ?_)
                  clear hR R
                  refine hK27 _ _ ?_
                  clear hK27 K27
                  refine wp_ret ?_
                  have hout : r.in_ l = (0, r.took (⟨0, (opn l 1).id, (pkA (opn l 1)).val.toNat, (pkB (opn l 1)).val.toNat, (pkC (opn l 1)).body⟩ : Pk)) := by unfold Rcv.in_; rw [hpk, if_neg (by simp), if_neg (by simp [hid]), if_neg hcl]
                  have RB7 := RB6.set_ (3 + (pkB (opn l 1)).val.toNat) (.bool true)
                  rw [rcv_set] at RB7
                  have F7 := F6.st g (3 + (pkB (opn l 1)).val.toNat) (.bool true) (.inl (by simp))
                  have O7 := O6.frm ((Frm.refl [g] w6).st g (3 + (pkB (opn l 1)).val.toNat) (.bool true) (.inl (by simp))) (fun b off e hx => by
                    simp only [List.mem_singleton] at hx
                    subst hx
                    exact own_blk_ne O6 RB6 (by decide) (by rw [e]; rfl))
                  have hol : (over (if r.known then r.data else List.replicate (pkA (opn l 1)).val.toNat 0) ((pkB (opn l 1)).val.toNat * 64) (pkC (opn l 1)).body).length = (pkA (opn l 1)).val.toNat := by rw [over_len _ _ _ (by rw [← hd5, hbl]; omega), ← hd5]
                  refine ret1 H rfl rfl ?_
                  unfold InPost
                  rw [hout]
                  refine ⟨rfl, .slice a5 (pkA (opn l 1)).val.toNat c5, ⟨RB7, ⟨a5, c5, ?_, ?_⟩, by simp [Rcv.took, hlen], hidl, ?_, R0.low⟩, F7, hown, fun h => absurd rfl h⟩
                  · show _ = Value.slice a5 (over (if r.known then r.data else List.replicate (pkA (opn l 1)).val.toNat 0) ((pkB (opn l 1)).val.toNat * 64) (pkC (opn l 1)).body).length c5
                    rw [hol]
                  · show Ow _ B a5 (over (if r.known then r.data else List.replicate (pkA (opn l 1)).val.toNat 0) ((pkB (opn l 1)).val.toNat * 64) (pkC (opn l 1)).body).length c5 (over (if r.known then r.data else List.replicate (pkA (opn l 1)).val.toNat 0) ((pkB (opn l 1)).val.toNat * 64) (pkC (opn l 1)).body)
                    rw [hol]
                    exact O7
                  · show (over (if r.known then r.data else List.replicate (pkA (opn l 1)).val.toNat 0) ((pkB (opn l 1)).val.toNat * 64) (pkC (opn l 1)).body).length ≤ 65535
                    rw [hol]; omega
                · skip
                  by_cases hk : r.known = true
                  · skip
                    rw [hk] at H
                    refine c_false H rfl ?_
                    refine wp_skip ?_
                    refine ⟨rfl, da, dc, ?_, ?_, E4.frm, .inl (by rw [hlk hk]), Ob⟩
                    · exact H.sub ⟨rfl, rfl, rfl, rfl, rfl, trivial⟩
                    · have hla : (pkA (opn l 1)).val.toNat = r.data.length := hlk hk
                      rw [if_pos hk, hla]
                      have hR := R0.ext E4
                      have hB := hR.blk
                      rw [hk] at hB
                      exact ⟨hB, ⟨da, dc, rfl, hO.ext_ E4⟩, hlen, hidl, hdlt, R0.low⟩
                  · skip
                    replace hk : r.known = false := by simpa using hk
                    rw [hk] at H
                    refine c_true H rfl ?_
                    obtain ⟨wd, hwd⟩ : ∃ wx, wx = w4.drew := ⟨_, rfl⟩
                    have Ewd : Ext w4 wd := by rw [hwd]; exact (Ext.refl _).dr
                    have RB := (R0.ext (E4.tr Ewd)).blk
                    rw [hk] at RB
                    have F : Frm (g :: (Value.slice da r.data.length dc).ownBlock.toList) w0 wd := (E4.tr Ewd).frm
                    replace Ob := Ob.ext_ Ewd
                    have hrl : ∀ (b : Bool) (v : Value), (rcvCells (r.id : Int) b v r.has).length = 1027 := fun b v => by simp only [rcvCells, List.length_cons, bools_len, hlen]
                    refine g_start (fun w' => True) (by kernel_rfl) (fun R hR => ?_)
                    rw [← hwd]
                    refine g_take 0 H rfl (wanted_none rfl) rfl (by decide) (by kernel_rfl) (by kernel_rfl) (by kernel_rfl) trivial (fun w' hSw => (x_move H rfl rfl)) ?_
                    clear H a; intro a H
                    refine g_take 1 H rfl (wanted_none rfl) rfl (by decide) (by kernel_rfl) (by kernel_rfl) (by kernel_rfl) trivial (fun w' hSw => (x_move H rfl rfl)) ?_
                    clear H a; intro a H
                    refine g_take 2 H rfl (wanted_none rfl) rfl (by decide) (by kernel_rfl) (by kernel_rfl) (by kernel_rfl) trivial (fun w' hSw => (x_move H rfl rfl)) ?_
                    clear H a; intro a H
                    refine g_take 4 H rfl (wanted_none rfl) rfl (by decide) (by kernel_rfl) (by kernel_rfl) (by kernel_rfl) trivial (fun w' hSw => (x_nilCheck H rfl rfl)) ?_
                    clear H a; intro a H
                    refine g_take 5 H rfl (wanted_none rfl) rfl (by decide) (by kernel_rfl) (by kernel_rfl) (by kernel_rfl) trivial (fun w' hSw => (x_fieldAddr H rfl rfl (fa181_1 _ _))) ?_
                    clear H a; intro a H
                    refine g_twos 3 6 H (by kernel_rfl) rfl (wanted_none rfl) rfl (by decide) (x_makeSlice H rfl rfl rfl (mk_u8 (n := (pkA (opn l 1)).val.toNat) (c := (pkA (opn l 1)).val.toNat) rfl rfl (by omega) (by omega))) (trivial) rfl (wanted_none rfl) rfl (x_store H rfl rfl rfl (st_cell rfl rfl Try.sizeOf4 (RB.frozen _) (RB.isSome 1 (by rw [hrl]; omega)))) (trivial) ?_ ?_
                    · skip
                      clear H a; intro a H
                      have OD := Ow.fresh wd B (pkA (opn l 1)).val.toNat (by have := F.size; omega) (by omega)
                      have hgdl : w0.heap.size ≤ wd.heap.size := F.size
                      replace RB := RB.alloc (.cells (u8s (List.replicate (pkA (opn l 1)).val.toNat 0)).toArray 5)
                      replace F := F.al (.cells (u8s (List.replicate (pkA (opn l 1)).val.toNat 0)).toArray 5)
                      replace Ob := Ob.ext_ ((Ext.refl wd).al (.cells (u8s (List.replicate (pkA (opn l 1)).val.toNat 0)).toArray 5))
                      obtain ⟨gd, hgd⟩ : ∃ g, g = wd.heap.size := ⟨_, rfl⟩
                      rw [← hgd] at H OD hgdl
                      clear hgd
                      generalize wd.alloc (.cells (u8s (List.replicate (pkA (opn l 1)).val.toNat 0)).toArray 5) = wd at *
                      refine g_st 6 H rfl (by kernel_rfl) (wanted_none rfl) rfl (x_store H rfl rfl rfl (st_cell rfl rfl Try.sizeOf4 (RB.frozen _) (RB.isSome 1 (by rw [hrl]; omega)))) (trivial) ?_
                      have FF := (Frm.refl [g] wd).st g 1 (.bool true) (.inl (by simp))
                      replace RB := RB.set_ 1 (.bool true)
                      replace F := F.st g 1 (.bool true) (.inl (by simp))
                      replace Ob := Ob.frm FF (fun b off e => by have := (Ob.lt e).1; simp; omega)
                      try (replace OD := OD.frm FF (fun b off e => by cases e; simp; omega))
                      clear FF
                      generalize wd.setCell ⟨g, 1, none⟩ (.bool true) = wd at *
                      refine g_take 7 H rfl (wanted_none rfl) rfl (by decide) (by kernel_rfl) (by kernel_rfl) (by kernel_rfl) trivial (fun w' hSw => (x_nilCheck H rfl rfl)) ?_
                      clear H a; intro a H
                      refine g_take 8 H rfl (wanted_none rfl) rfl (by decide) (by kernel_rfl) (by kernel_rfl) (by kernel_rfl) trivial (fun w' hSw => (x_fieldAddr H rfl rfl (fa181_2 _ _))) ?_
                      clear H a; intro a H
                      refine g_st 9 H rfl (by kernel_rfl) (wanted_none rfl) rfl (x_store H rfl rfl rfl (st_cell rfl rfl Try.sizeOf22 (RB.frozen _) (RB.isSome 2 (by simp only [rcvCells, List.length_set, List.length_cons, bools_len, hlen]; omega)))) (trivial) ?_
                      have FF := (Frm.refl [g] wd).st g 2 (.slice (some ⟨gd, 0, none⟩) (pkA (opn l 1)).val.toNat (pkA (opn l 1)).val.toNat) (.inl (by simp))
                      replace RB := RB.set_ 2 (.slice (some ⟨gd, 0, none⟩) (pkA (opn l 1)).val.toNat (pkA (opn l 1)).val.toNat)
                      replace F := F.st g 2 (.slice (some ⟨gd, 0, none⟩) (pkA (opn l 1)).val.toNat (pkA (opn l 1)).val.toNat) (.inl (by simp))
                      replace Ob := Ob.frm FF (fun b off e => by have := (Ob.lt e).1; simp; omega)
                      replace OD := OD.frm FF (fun b off e => by cases e; simp; omega)
                      clear FF
                      generalize wd.setCell ⟨g, 2, none⟩ (.slice (some ⟨gd, 0, none⟩) (pkA (opn l 1)).val.toNat (pkA (opn l 1)).val.toNat) = wd at *
                      refine g_done (by kernel_rfl) (hR.out _ _ ?_)
                      clear hR R
                      refine ⟨rfl, some ⟨gd, 0, none⟩, (pkA (opn l 1)).val.toNat, H.sub ⟨rfl, rfl, rfl, rfl, rfl, trivial⟩, ?_, F, .inr ⟨gd, rfl, hgdl⟩, Ob⟩
                      rw [if_neg (by rw [hk]; simp)]
                      exact ⟨RB, ⟨_, _, by rw [List.length_replicate], by rw [List.length_replicate]; exact OD⟩, hlen, hidl, by rw [List.length_replicate]; omega, R0.low⟩
                    · skip
                      have FF := (Frm.refl [g] wd).st g 1 (.bool true) (.inl (by simp))
                      replace RB := RB.set_ 1 (.bool true)
                      replace F := F.st g 1 (.bool true) (.inl (by simp))
                      replace Ob := Ob.frm FF (fun b off e => by have := (Ob.lt e).1; simp; omega)
                      try (replace OD := OD.frm FF (fun b off e => by cases e; simp; omega))
                      clear FF
                      generalize wd.setCell ⟨g, 1, none⟩ (.bool true) = wd at *
                      refine g_op 3 H rfl (by kernel_rfl) (wanted_none rfl) rfl (by decide) (x_makeSlice H rfl rfl rfl (mk_u8 (n := (pkA (opn l 1)).val.toNat) (c := (pkA (opn l 1)).val.toNat) rfl rfl (by omega) (by omega))) (trivial) ?_
                      clear H a; intro a H
                      have OD := Ow.fresh wd B (pkA (opn l 1)).val.toNat (by have := F.size; omega) (by omega)
                      have hgdl : w0.heap.size ≤ wd.heap.size := F.size
                      replace RB := RB.alloc (.cells (u8s (List.replicate (pkA (opn l 1)).val.toNat 0)).toArray 5)
                      replace F := F.al (.cells (u8s (List.replicate (pkA (opn l 1)).val.toNat 0)).toArray 5)
                      replace Ob := Ob.ext_ ((Ext.refl wd).al (.cells (u8s (List.replicate (pkA (opn l 1)).val.toNat 0)).toArray 5))
                      obtain ⟨gd, hgd⟩ : ∃ g, g = wd.heap.size := ⟨_, rfl⟩
                      rw [← hgd] at H OD hgdl
                      clear hgd
                      generalize wd.alloc (.cells (u8s (List.replicate (pkA (opn l 1)).val.toNat 0)).toArray 5) = wd at *
                      refine g_take 7 H rfl (wanted_none rfl) rfl (by decide) (by kernel_rfl) (by kernel_rfl) (by kernel_rfl) trivial (fun w' hSw => (x_nilCheck H rfl rfl)) ?_
                      clear H a; intro a H
                      refine g_take 8 H rfl (wanted_none rfl) rfl (by decide) (by kernel_rfl) (by kernel_rfl) (by kernel_rfl) trivial (fun w' hSw => (x_fieldAddr H rfl rfl (fa181_2 _ _))) ?_
                      clear H a; intro a H
                      refine g_st 9 H rfl (by kernel_rfl) (wanted_none rfl) rfl (x_store H rfl rfl rfl (st_cell rfl rfl Try.sizeOf22 (RB.frozen _) (RB.isSome 2 (by simp only [rcvCells, List.length_set, List.length_cons, bools_len, hlen]; omega)))) (trivial) ?_
                      have FF := (Frm.refl [g] wd).st g 2 (.slice (some ⟨gd, 0, none⟩) (pkA (opn l 1)).val.toNat (pkA (opn l 1)).val.toNat) (.inl (by simp))
                      replace RB := RB.set_ 2 (.slice (some ⟨gd, 0, none⟩) (pkA (opn l 1)).val.toNat (pkA (opn l 1)).val.toNat)
                      replace F := F.st g 2 (.slice (some ⟨gd, 0, none⟩) (pkA (opn l 1)).val.toNat (pkA (opn l 1)).val.toNat) (.inl (by simp))
                      replace Ob := Ob.frm FF (fun b off e => by have := (Ob.lt e).1; simp; omega)
                      replace OD := OD.frm FF (fun b off e => by cases e; simp; omega)
                      clear FF
                      generalize wd.setCell ⟨g, 2, none⟩ (.slice (some ⟨gd, 0, none⟩) (pkA (opn l 1)).val.toNat (pkA (opn l 1)).val.toNat) = wd at *
                      refine g_done (by kernel_rfl) (hR.out _ _ ?_)
                      clear hR R
                      refine ⟨rfl, some ⟨gd, 0, none⟩, (pkA (opn l 1)).val.toNat, H.sub ⟨rfl, rfl, rfl, rfl, rfl, trivial⟩, ?_, F, .inr ⟨gd, rfl, hgdl⟩, Ob⟩
                      rw [if_neg (by rw [hk]; simp)]
                      exact ⟨RB, ⟨_, _, by rw [List.length_replicate], by rw [List.length_replicate]; exact OD⟩, hlen, hidl, by rw [List.length_replicate]; omega, R0.low⟩
            · skip
              rcases (show r.known = false ∨ (r.known = true ∧ (pkA (opn l 1)).val.toNat ≠ r.data.length) ∨ (r.known = true ∧ (pkA (opn l 1)).val.toNat = r.data.length ∧ gb r.has (pkB (opn l 1)).val.toNat = false) ∨ (r.known = true ∧ (pkA (opn l 1)).val.toNat = r.data.length ∧ gb r.has (pkB (opn l 1)).val.toNat = true) by cases r.known <;> cases gb r.has (pkB (opn l 1)).val.toNat <;> simp <;> omega) with hk | ⟨hk, hl1⟩ | ⟨hk, hl1, hgb⟩ | ⟨hk, hl1, hgb⟩
              · skip
                skip
                refine e_region (fun R hR => ?_)
                refine e_op H rfl rfl (by decide) (x_move H rfl rfl) ?_
                clear H a; intro a H
                refine e_op H rfl rfl (by decide) (x_nilCheck H rfl rfl) ?_
                clear H a; intro a H
                refine e_op H rfl rfl (by decide) (x_fieldAddr H rfl rfl (fa181_1 _ _)) ?_
                clear H a; intro a H
                refine e_op H rfl rfl (by decide) (x_load H rfl rfl (l_cell Try.isAgg4 ((R0.ext E4).blk.at_ (i := 1) (by rw [rcv_known, hk])))) ?_
                clear H a; intro a H
                refine e_op H rfl rfl (by decide) (x_move H rfl rfl) ?_
                clear H a; intro a H
                refine e_skip H (wanted_false H rfl rfl rfl rfl) rfl (by decide) ?_
                clear H a; intro a H
                refine e_skip H (wanted_false H rfl rfl rfl rfl) rfl (by decide) ?_
                clear H a; intro a H
                refine e_skip H (wanted_false H rfl rfl rfl rfl) rfl (by decide) ?_
                clear H a; intro a H
                refine e_skip H (wanted_false H rfl rfl rfl rfl) rfl (by decide) ?_
                clear H a; intro a H
                refine e_skip H (wanted_false H rfl rfl rfl rfl) rfl (by decide) ?_
                clear H a; intro a H
                refine e_skip H (wanted_false H rfl rfl rfl rfl) rfl (by decide) ?_
                clear H a; intro a H
                refine e_skip H (wanted_false H rfl rfl rfl rfl) rfl (by decide) ?_
                clear H a; intro a H
                refine e_skip H (wanted_false H rfl rfl rfl rfl) rfl (by decide) ?_
                clear H a; intro a H
                refine e_skip H (wanted_undef H rfl rfl rfl rfl) rfl (by decide) ?_
                clear H a; intro a H
                refine e_skip H (wanted_undef H rfl rfl rfl rfl) rfl (by decide) ?_
                clear H a; intro a H
                refine e_skip H (wanted_undef H rfl rfl rfl rfl) rfl (by decide) ?_
                clear H a; intro a H
                refine e_skip H (wanted_undef H rfl rfl rfl rfl) rfl (by decide) ?_
                clear H a; intro a H
                refine e_skip H (wanted_undef H rfl rfl rfl rfl) rfl (by decide) ?_
                clear H a; intro a H
                refine e_skip H (wanted_undef H rfl rfl rfl rfl) rfl (by decide) ?_
                clear H a; intro a H
                refine e_skip H (wanted_undef H rfl rfl rfl rfl) rfl (by decide) ?_
                clear H a; intro a H
                refine e_skip H (wanted_undef H rfl rfl rfl rfl) rfl (by decide) ?_
                clear H a; intro a H
                refine e_skip H (wanted_undef H rfl rfl rfl rfl) rfl (by decide) ?_
                clear H a; intro a H
                refine e_skip H (wanted_undef H rfl rfl rfl rfl) rfl (by decide) ?_
                clear H a; intro a H
                refine e_skip H (wanted_undef H rfl rfl rfl rfl) rfl (by decide) ?_
                clear H a; intro a H
                refine e_skip H (wanted_undef H rfl rfl rfl rfl) rfl (by decide) ?_
                clear H a; intro a H
                refine e_skip H (wanted_undef H rfl rfl rfl rfl) rfl (by decide) ?_
                clear H a; intro a H
                refine e_skip H (wanted_undef H rfl rfl rfl rfl) rfl (by decide) ?_
                clear H a; intro a H
                refine e_skip H (wanted_undef H rfl rfl rfl rfl) rfl (by decide) ?_
                clear H a; intro a H
                refine e_skip H (wanted_undef H rfl rfl rfl rfl) rfl (by decide) ?_
                clear H a; intro a H
                refine e_skip H (wanted_undef H rfl rfl rfl rfl) rfl (by decide) ?_
                clear H a; intro a H
                refine e_skip H (wanted_undef H rfl rfl rfl rfl) rfl (by decide) ?_
                clear H a; intro a H
                refine e_skip H (wanted_false H rfl rfl rfl rfl) rfl (by decide) ?_
                clear H a; intro a H
                refine e_op H rfl rfl (by decide) (x_pickF H rfl rfl rfl) ?_
                clear H a; intro a H
                refine e_nil (hR.out _ _ ?_)
                clear hR R
                have hba : (decide (r.clash (⟨0, (opn l 1).id, (pkA (opn l 1)).val.toNat, (pkB (opn l 1)).val.toNat, (pkC (opn l 1)).body⟩ : Pk))) = false := decide_eq_false (fun h => by rw [h.1] at hk; cases hk)
                rw [hba]
                exact ⟨rfl, H.sub ⟨rfl, rfl, rfl, rfl, rfl, rfl, rfl, rfl, trivial⟩, rfl⟩
              · skip
                skip
                refine e_region (fun R hR => ?_)
                refine e_op H rfl rfl (by decide) (x_move H rfl rfl) ?_
                clear H a; intro a H
                refine e_op H rfl rfl (by decide) (x_nilCheck H rfl rfl) ?_
                clear H a; intro a H
                refine e_op H rfl rfl (by decide) (x_fieldAddr H rfl rfl (fa181_1 _ _)) ?_
                clear H a; intro a H
                refine e_op H rfl rfl (by decide) (x_load H rfl rfl (l_cell Try.isAgg4 ((R0.ext E4).blk.at_ (i := 1) (by rw [rcv_known, hk])))) ?_
                clear H a; intro a H
                refine e_op H rfl rfl (by decide) (x_move H rfl rfl) ?_
                clear H a; intro a H
                refine e_opg H (wanted_true H rfl rfl rfl rfl) rfl (by decide) (x_move H rfl rfl) ?_
                clear H a; intro a H
                refine e_opg H (wanted_true H rfl rfl rfl rfl) rfl (by decide) (x_move H rfl rfl) ?_
                clear H a; intro a H
                refine e_opg H (wanted_true H rfl rfl rfl rfl) rfl (by decide) (x_nilCheck H rfl rfl) ?_
                clear H a; intro a H
                refine e_opg H (wanted_true H rfl rfl rfl rfl) rfl (by decide) (x_fieldAddr H rfl rfl (fa181_2 _ _)) ?_
                clear H a; intro a H
                refine e_opg H (wanted_true H rfl rfl rfl rfl) rfl (by decide) (x_load H rfl rfl (l_cell Try.isAgg22 ((R0.ext E4).blk.at_ (i := 2) rfl))) ?_
                clear H a; intro a H
                refine e_opg H (wanted_true H rfl rfl rfl rfl) rfl (by decide) (x_builtin H rfl rfl (fun cs => len_sl Try.underlying22)) ?_
                clear H a; intro a H
                refine e_opg H (wanted_true H rfl rfl rfl rfl) rfl (by decide) (x_binI H rfl rfl rfl (b_neq (b := true) (bne_t (by omega)))) ?_
                clear H a; intro a H
                refine e_opg H (wanted_true H rfl rfl rfl rfl) rfl (by decide) (x_move H rfl rfl) ?_
                clear H a; intro a H
                refine e_skip H (wanted_false H rfl rfl rfl rfl) rfl (by decide) ?_
                clear H a; intro a H
                refine e_skip H (wanted_false H rfl rfl rfl rfl) rfl (by decide) ?_
                clear H a; intro a H
                refine e_skip H (wanted_false H rfl rfl rfl rfl) rfl (by decide) ?_
                clear H a; intro a H
                refine e_skip H (wanted_false H rfl rfl rfl rfl) rfl (by decide) ?_
                clear H a; intro a H
                refine e_skip H (wanted_false H rfl rfl rfl rfl) rfl (by decide) ?_
                clear H a; intro a H
                refine e_skip H (wanted_false H rfl rfl rfl rfl) rfl (by decide) ?_
                clear H a; intro a H
                refine e_skip H (wanted_false H rfl rfl rfl rfl) rfl (by decide) ?_
                clear H a; intro a H
                refine e_skip H (wanted_undef H rfl rfl rfl rfl) rfl (by decide) ?_
                clear H a; intro a H
                refine e_skip H (wanted_undef H rfl rfl rfl rfl) rfl (by decide) ?_
                clear H a; intro a H
                refine e_skip H (wanted_undef H rfl rfl rfl rfl) rfl (by decide) ?_
                clear H a; intro a H
                refine e_skip H (wanted_undef H rfl rfl rfl rfl) rfl (by decide) ?_
                clear H a; intro a H
                refine e_skip H (wanted_undef H rfl rfl rfl rfl) rfl (by decide) ?_
                clear H a; intro a H
                refine e_skip H (wanted_undef H rfl rfl rfl rfl) rfl (by decide) ?_
                clear H a; intro a H
                refine e_skip H (wanted_undef H rfl rfl rfl rfl) rfl (by decide) ?_
                clear H a; intro a H
                refine e_skip H (wanted_undef H rfl rfl rfl rfl) rfl (by decide) ?_
                clear H a; intro a H
                refine e_skip H (wanted_undef H rfl rfl rfl rfl) rfl (by decide) ?_
                clear H a; intro a H
                refine e_skip H (wanted_undef H rfl rfl rfl rfl) rfl (by decide) ?_
                clear H a; intro a H
                refine e_skip H (wanted_false H rfl rfl rfl rfl) rfl (by decide) ?_
                clear H a; intro a H
                refine e_opg H (wanted_true H rfl rfl rfl rfl) rfl (by decide) (x_pickT H rfl rfl rfl) ?_
                clear H a; intro a H
                refine e_op H rfl rfl (by decide) (x_pickT H rfl rfl rfl) ?_
                clear H a; intro a H
                refine e_nil (hR.out _ _ ?_)
                clear hR R
                have hba : (decide (r.clash (⟨0, (opn l 1).id, (pkA (opn l 1)).val.toNat, (pkB (opn l 1)).val.toNat, (pkC (opn l 1)).body⟩ : Pk))) = true := decide_eq_true ⟨hk, .inl hl1⟩
                rw [hba]
                exact ⟨rfl, H.sub ⟨rfl, rfl, rfl, rfl, rfl, rfl, rfl, rfl, trivial⟩, rfl⟩
              · skip
                skip
                refine e_region (fun R hR => ?_)
                refine e_op H rfl rfl (by decide) (x_move H rfl rfl) ?_
                clear H a; intro a H
                refine e_op H rfl rfl (by decide) (x_nilCheck H rfl rfl) ?_
                clear H a; intro a H
                refine e_op H rfl rfl (by decide) (x_fieldAddr H rfl rfl (fa181_1 _ _)) ?_
                clear H a; intro a H
                refine e_op H rfl rfl (by decide) (x_load H rfl rfl (l_cell Try.isAgg4 ((R0.ext E4).blk.at_ (i := 1) (by rw [rcv_known, hk])))) ?_
                clear H a; intro a H
                refine e_op H rfl rfl (by decide) (x_move H rfl rfl) ?_
                clear H a; intro a H
                refine e_opg H (wanted_true H rfl rfl rfl rfl) rfl (by decide) (x_move H rfl rfl) ?_
                clear H a; intro a H
                refine e_opg H (wanted_true H rfl rfl rfl rfl) rfl (by decide) (x_move H rfl rfl) ?_
                clear H a; intro a H
                refine e_opg H (wanted_true H rfl rfl rfl rfl) rfl (by decide) (x_nilCheck H rfl rfl) ?_
                clear H a; intro a H
                refine e_opg H (wanted_true H rfl rfl rfl rfl) rfl (by decide) (x_fieldAddr H rfl rfl (fa181_2 _ _)) ?_
                clear H a; intro a H
                refine e_opg H (wanted_true H rfl rfl rfl rfl) rfl (by decide) (x_load H rfl rfl (l_cell Try.isAgg22 ((R0.ext E4).blk.at_ (i := 2) rfl))) ?_
                clear H a; intro a H
                refine e_opg H (wanted_true H rfl rfl rfl rfl) rfl (by decide) (x_builtin H rfl rfl (fun cs => len_sl Try.underlying22)) ?_
                clear H a; intro a H
                refine e_opg H (wanted_true H rfl rfl rfl rfl) rfl (by decide) (x_binI H rfl rfl rfl (b_neq (b := false) (bne_f (by omega)))) ?_
                clear H a; intro a H
                refine e_opg H (wanted_true H rfl rfl rfl rfl) rfl (by decide) (x_move H rfl rfl) ?_
                clear H a; intro a H
                refine e_opg H (wanted_true H rfl rfl rfl rfl) rfl (by decide) (x_move H rfl rfl) ?_
                clear H a; intro a H
                refine e_opg H (wanted_true H rfl rfl rfl rfl) rfl (by decide) (x_move H rfl rfl) ?_
                clear H a; intro a H
                refine e_opg H (wanted_true H rfl rfl rfl rfl) rfl (by decide) (x_nilCheck H rfl rfl) ?_
                clear H a; intro a H
                refine e_opg H (wanted_true H rfl rfl rfl rfl) rfl (by decide) (x_fieldAddr H rfl rfl (fa181_3 _ _)) ?_
                clear H a; intro a H
                refine e_opg H (wanted_true H rfl rfl rfl rfl) rfl (by decide) (x_indexAddr H rfl rfl rfl (i_arr (m := (pkB (opn l 1)).val.toNat) Try.underlying179 Try.sizeOf4 rfl (by omega))) ?_
                clear H a; intro a H
                refine e_opg H (wanted_true H rfl rfl rfl rfl) rfl (by decide) (x_load H rfl rfl (l_cell Try.isAgg4 ((R0.ext E4).blk.at_ (i := 3 + (pkB (opn l 1)).val.toNat) (by rw [rcv_mark _ _ _ _ _ (by omega), hgb])))) ?_
                clear H a; intro a H
                refine e_opg H (wanted_true H rfl rfl rfl rfl) rfl (by decide) (x_move H rfl rfl) ?_
                clear H a; intro a H
                refine e_skip H (wanted_false H rfl rfl rfl rfl) rfl (by decide) ?_
                clear H a; intro a H
                refine e_skip H (wanted_false H rfl rfl rfl rfl) rfl (by decide) ?_
                clear H a; intro a H
                refine e_skip H (wanted_false H rfl rfl rfl rfl) rfl (by decide) ?_
                clear H a; intro a H
                refine e_skip H (wanted_false H rfl rfl rfl rfl) rfl (by decide) ?_
                clear H a; intro a H
                refine e_skip H (wanted_false H rfl rfl rfl rfl) rfl (by decide) ?_
                clear H a; intro a H
                refine e_skip H (wanted_false H rfl rfl rfl rfl) rfl (by decide) ?_
                clear H a; intro a H
                refine e_skip H (wanted_false H rfl rfl rfl rfl) rfl (by decide) ?_
                clear H a; intro a H
                refine e_skip H (wanted_false H rfl rfl rfl rfl) rfl (by decide) ?_
                clear H a; intro a H
                refine e_skip H (wanted_false H rfl rfl rfl rfl) rfl (by decide) ?_
                clear H a; intro a H
                refine e_skip H (wanted_false H rfl rfl rfl rfl) rfl (by decide) ?_
                clear H a; intro a H
                refine e_opg H (wanted_true H rfl rfl rfl rfl) rfl (by decide) (x_pickF H rfl rfl rfl) ?_
                clear H a; intro a H
                refine e_opg H (wanted_true H rfl rfl rfl rfl) rfl (by decide) (x_pickF H rfl rfl rfl) ?_
                clear H a; intro a H
                refine e_op H rfl rfl (by decide) (x_pickT H rfl rfl rfl) ?_
                clear H a; intro a H
                refine e_nil (hR.out _ _ ?_)
                clear hR R
                have hba : (decide (r.clash (⟨0, (opn l 1).id, (pkA (opn l 1)).val.toNat, (pkB (opn l 1)).val.toNat, (pkC (opn l 1)).body⟩ : Pk))) = false := decide_eq_false (fun h => h.2.elim (fun h => h hl1) (fun h => by rw [h.1] at hgb; cases hgb))
                rw [hba]
                exact ⟨rfl, H.sub ⟨rfl, rfl, rfl, rfl, rfl, rfl, rfl, rfl, trivial⟩, rfl⟩
              · skip
                skip
                refine e_region (fun R hR => ?_)
                refine e_op H rfl rfl (by decide) (x_move H rfl rfl) ?_
                clear H a; intro a H
                refine e_op H rfl rfl (by decide) (x_nilCheck H rfl rfl) ?_
                clear H a; intro a H
                refine e_op H rfl rfl (by decide) (x_fieldAddr H rfl rfl (fa181_1 _ _)) ?_
                clear H a; intro a H
                refine e_op H rfl rfl (by decide) (x_load H rfl rfl (l_cell Try.isAgg4 ((R0.ext E4).blk.at_ (i := 1) (by rw [rcv_known, hk])))) ?_
                clear H a; intro a H
                refine e_op H rfl rfl (by decide) (x_move H rfl rfl) ?_
                clear H a; intro a H
                refine e_opg H (wanted_true H rfl rfl rfl rfl) rfl (by decide) (x_move H rfl rfl) ?_
                clear H a; intro a H
                refine e_opg H (wanted_true H rfl rfl rfl rfl) rfl (by decide) (x_move H rfl rfl) ?_
                clear H a; intro a H
                refine e_opg H (wanted_true H rfl rfl rfl rfl) rfl (by decide) (x_nilCheck H rfl rfl) ?_
                clear H a; intro a H
                refine e_opg H (wanted_true H rfl rfl rfl rfl) rfl (by decide) (x_fieldAddr H rfl rfl (fa181_2 _ _)) ?_
                clear H a; intro a H
                refine e_opg H (wanted_true H rfl rfl rfl rfl) rfl (by decide) (x_load H rfl rfl (l_cell Try.isAgg22 ((R0.ext E4).blk.at_ (i := 2) rfl))) ?_
                clear H a; intro a H
                refine e_opg H (wanted_true H rfl rfl rfl rfl) rfl (by decide) (x_builtin H rfl rfl (fun cs => len_sl Try.underlying22)) ?_
                clear H a; intro a H
                refine e_opg H (wanted_true H rfl rfl rfl rfl) rfl (by decide) (x_binI H rfl rfl rfl (b_neq (b := false) (bne_f (by omega)))) ?_
                clear H a; intro a H
                refine e_opg H (wanted_true H rfl rfl rfl rfl) rfl (by decide) (x_move H rfl rfl) ?_
                clear H a; intro a H
                refine e_opg H (wanted_true H rfl rfl rfl rfl) rfl (by decide) (x_move H rfl rfl) ?_
                clear H a; intro a H
                refine e_opg H (wanted_true H rfl rfl rfl rfl) rfl (by decide) (x_move H rfl rfl) ?_
                clear H a; intro a H
                refine e_opg H (wanted_true H rfl rfl rfl rfl) rfl (by decide) (x_nilCheck H rfl rfl) ?_
                clear H a; intro a H
                refine e_opg H (wanted_true H rfl rfl rfl rfl) rfl (by decide) (x_fieldAddr H rfl rfl (fa181_3 _ _)) ?_
                clear H a; intro a H
                refine e_opg H (wanted_true H rfl rfl rfl rfl) rfl (by decide) (x_indexAddr H rfl rfl rfl (i_arr (m := (pkB (opn l 1)).val.toNat) Try.underlying179 Try.sizeOf4 rfl (by omega))) ?_
                clear H a; intro a H
                refine e_opg H (wanted_true H rfl rfl rfl rfl) rfl (by decide) (x_load H rfl rfl (l_cell Try.isAgg4 ((R0.ext E4).blk.at_ (i := 3 + (pkB (opn l 1)).val.toNat) (by rw [rcv_mark _ _ _ _ _ (by omega), hgb])))) ?_
                clear H a; intro a H
                refine e_opg H (wanted_true H rfl rfl rfl rfl) rfl (by decide) (x_move H rfl rfl) ?_
                clear H a; intro a H
                refine e_opg H (wanted_true H rfl rfl rfl rfl) rfl (by decide) (x_move H rfl rfl) ?_
                clear H a; intro a H
                refine e_opg H (wanted_true H rfl rfl rfl rfl) rfl (by decide) (x_nilCheck H rfl rfl) ?_
                clear H a; intro a H
                refine e_opg H (wanted_true H rfl rfl rfl rfl) rfl (by decide) (x_fieldAddr H rfl rfl (fa181_2 _ _)) ?_
                clear H a; intro a H
                refine e_opg H (wanted_true H rfl rfl rfl rfl) rfl (by decide) (x_load H rfl rfl (l_cell Try.isAgg22 ((R0.ext E4).blk.at_ (i := 2) rfl))) ?_
                clear H a; intro a H
                refine e_opg H (wanted_true H rfl rfl rfl rfl) rfl (by decide) (x_move H rfl rfl) ?_
                clear H a; intro a H
                refine e_opg H (wanted_true H rfl rfl rfl rfl) rfl (by decide) (x_move H rfl rfl) ?_
                clear H a; intro a H
                refine e_opg H (wanted_true H rfl rfl rfl rfl) rfl (by decide) (x_slice H rfl rfl rfl rfl (sl_lh (lo := (pkB (opn l 1)).val.toNat * 64) (hi := min (((pkB (opn l 1)).val.toNat + 1) * 64) (pkA (opn l 1)).val.toNat) Try.underlying22 Try.sizeOf5 rfl rfl (by omega) (by omega))) ?_
                clear H a; intro a H
                refine e_opg H (wanted_true H rfl rfl rfl rfl) rfl (by decide) (x_move H rfl rfl) ?_
                clear H a; intro a H
                refine e_callqg H (wanted_true H rfl rfl rfl rfl) rfl (by decide) rfl rfl (Try.call114 _) (equal_any (cutA da dc ((pkB (opn l 1)).val.toNat * 64)) (min (((pkB (opn l 1)).val.toNat + 1) * 64) (pkA (opn l 1)).val.toNat - (pkB (opn l 1)).val.toNat * 64) (dc - (pkB (opn l 1)).val.toNat * 64) ((r.data.drop ((pkB (opn l 1)).val.toNat * 64)).take (min (((pkB (opn l 1)).val.toNat + 1) * 64) (pkA (opn l 1)).val.toNat - (pkB (opn l 1)).val.toNat * 64)) ab (pkC (opn l 1)).body.length cb (pkC (opn l 1)).body w4 (bs_lh (hO.ext_ E4).bs ((pkB (opn l 1)).val.toNat * 64) (min (((pkB (opn l 1)).val.toNat + 1) * 64) (pkA (opn l 1)).val.toNat) (by omega) (by omega) hdc) Ob.bs) ?_
                clear H a
                rintro e wn ⟨rfl, hwn⟩
                rw [hwn]
                refine ⟨_, rfl, fun a H => ?_⟩
                refine e_opg H (wanted_true H rfl rfl rfl rfl) rfl (by decide) (x_un H rfl rfl (u_not (c := !decide ((r.data.drop ((pkB (opn l 1)).val.toNat * 64)).take (min (((pkB (opn l 1)).val.toNat + 1) * 64) (pkA (opn l 1)).val.toNat - (pkB (opn l 1)).val.toNat * 64) = (pkC (opn l 1)).body)) rfl)) ?_
                clear H a; intro a H
                refine e_opg H (wanted_true H rfl rfl rfl rfl) rfl (by decide) (x_pickT H rfl rfl rfl) ?_
                clear H a; intro a H
                refine e_opg H (wanted_true H rfl rfl rfl rfl) rfl (by decide) (x_pickF H rfl rfl rfl) ?_
                clear H a; intro a H
                refine e_op H rfl rfl (by decide) (x_pickT H rfl rfl rfl) ?_
                clear H a; intro a H
                refine e_nil (hR.out _ _ ?_)
                clear hR R
                have hba : (decide (r.clash (⟨0, (opn l 1).id, (pkA (opn l 1)).val.toNat, (pkB (opn l 1)).val.toNat, (pkC (opn l 1)).body⟩ : Pk))) = !decide ((r.data.drop ((pkB (opn l 1)).val.toNat * 64)).take (min (((pkB (opn l 1)).val.toNat + 1) * 64) (pkA (opn l 1)).val.toNat - (pkB (opn l 1)).val.toNat * 64) = (pkC (opn l 1)).body) := by
                  by_cases h : (r.data.drop ((pkB (opn l 1)).val.toNat * 64)).take (min (((pkB (opn l 1)).val.toNat + 1) * 64) (pkA (opn l 1)).val.toNat - (pkB (opn l 1)).val.toNat * 64) = (pkC (opn l 1)).body
                  · rw [decide_eq_true h]; exact decide_eq_false (fun c => c.2.elim (fun e => absurd hl1 e) (fun e => e.2 h))
                  · rw [decide_eq_false h]; exact decide_eq_true ⟨hk, .inr ⟨hgb, h⟩⟩
                rw [hba]
                exact ⟨rfl, H.sub ⟨rfl, rfl, rfl, rfl, rfl, rfl, rfl, rfl, trivial⟩, rfl⟩
    · skip
      rcases (show rsEnd (pkC (opn l 1)).left (pkC (opn l 1)).err ≠ 0 ∨ (rsEnd (pkC (opn l 1)).left (pkC (opn l 1)).err = 0 ∧ chunksT (pkA (opn l 1)).val.toNat ≤ (pkB (opn l 1)).val.toNat) ∨ (rsEnd (pkC (opn l 1)).left (pkC (opn l 1)).err = 0 ∧ ¬ chunksT (pkA (opn l 1)).val.toNat ≤ (pkB (opn l 1)).val.toNat) by omega) with h1 | ⟨h1, h2⟩ | ⟨h1, h2⟩
      · skip
        skip
        refine e_region (fun R hR => ?_)
        refine e_op H rfl rfl (by decide) (x_move H rfl rfl) ?_
        clear H a; intro a H
        refine e_callq H rfl rfl (by decide) rfl rfl (Try.call82 _) (rEnd_any gr q _ _ w4 Qd4) ?_
        clear H a
        rintro e w5 ⟨rfl, rfl⟩
        refine ⟨_, rfl, fun a H => ?_⟩
        refine e_op H rfl rfl (by decide) (x_binI H rfl rfl rfl (b_neq (b := true) (bne_t (by omega)))) ?_
        clear H a; intro a H
        refine e_op H rfl rfl (by decide) (x_move H rfl rfl) ?_
        clear H a; intro a H
        refine e_skip H (wanted_false H rfl rfl rfl rfl) rfl (by decide) ?_
        clear H a; intro a H
        refine e_skip H (wanted_false H rfl rfl rfl rfl) rfl (by decide) ?_
        clear H a; intro a H
        refine e_skip H (wanted_false H rfl rfl rfl rfl) rfl (by decide) ?_
        clear H a; intro a H
        refine e_skip H (wanted_false H rfl rfl rfl rfl) rfl (by decide) ?_
        clear H a; intro a H
        refine e_op H rfl rfl (by decide) (x_pickT H rfl rfl rfl) ?_
        clear H a; intro a H
        refine e_nil (hR.out _ _ ?_)
        clear hR R
        have hba : (decide (rsEnd (pkC (opn l 1)).left (pkC (opn l 1)).err ≠ 0 ∨ chunksT (pkA (opn l 1)).val.toNat ≤ (pkB (opn l 1)).val.toNat)) = true := decide_eq_true (.inl h1)
        rw [hba]
        exact ⟨rfl, H.sub ⟨rfl, rfl, rfl, rfl, rfl, rfl, trivial⟩, rfl⟩
      · skip
        skip
        refine e_region (fun R hR => ?_)
        refine e_op H rfl rfl (by decide) (x_move H rfl rfl) ?_
        clear H a; intro a H
        refine e_callq H rfl rfl (by decide) rfl rfl (Try.call82 _) (rEnd_any gr q _ _ w4 Qd4) ?_
        clear H a
        rintro e w5 ⟨rfl, rfl⟩
        refine ⟨_, rfl, fun a H => ?_⟩
        refine e_op H rfl rfl (by decide) (x_binI H rfl rfl rfl (b_neq (b := false) (bne_f (by omega)))) ?_
        clear H a; intro a H
        refine e_op H rfl rfl (by decide) (x_move H rfl rfl) ?_
        clear H a; intro a H
        refine e_opg H (wanted_true H rfl rfl rfl rfl) rfl (by decide) (x_move H rfl rfl) ?_
        clear H a; intro a H
        refine e_opg H (wanted_true H rfl rfl rfl rfl) rfl (by decide) (x_move H rfl rfl) ?_
        clear H a; intro a H
        refine e_callqg H (wanted_true H rfl rfl rfl rfl) rfl (by decide) rfl rfl (Try.call109 _) (chunks_any (pkA (opn l 1)).val.toNat w4 (by omega)) ?_
        clear H a
        rintro e wn ⟨rfl, hwn⟩
        rw [hwn]
        refine ⟨_, rfl, fun a H => ?_⟩
        refine e_opg H (wanted_true H rfl rfl rfl rfl) rfl (by decide) (x_binI H rfl rfl rfl (b_geq (b := true) (dec_t (by omega)))) ?_
        clear H a; intro a H
        refine e_op H rfl rfl (by decide) (x_pickF H rfl rfl rfl) ?_
        clear H a; intro a H
        refine e_nil (hR.out _ _ ?_)
        clear hR R
        have hba : (decide (rsEnd (pkC (opn l 1)).left (pkC (opn l 1)).err ≠ 0 ∨ chunksT (pkA (opn l 1)).val.toNat ≤ (pkB (opn l 1)).val.toNat)) = true := decide_eq_true (.inr h2)
        rw [hba]
        exact ⟨rfl, H.sub ⟨rfl, rfl, rfl, rfl, rfl, rfl, trivial⟩, rfl⟩
      · skip
        skip
        refine e_region (fun R hR => ?_)
        refine e_op H rfl rfl (by decide) (x_move H rfl rfl) ?_
        clear H a; intro a H
        refine e_callq H rfl rfl (by decide) rfl rfl (Try.call82 _) (rEnd_any gr q _ _ w4 Qd4) ?_
        clear H a
        rintro e w5 ⟨rfl, rfl⟩
        refine ⟨_, rfl, fun a H => ?_⟩
        refine e_op H rfl rfl (by decide) (x_binI H rfl rfl rfl (b_neq (b := false) (bne_f (by omega)))) ?_
        clear H a; intro a H
        refine e_op H rfl rfl (by decide) (x_move H rfl rfl) ?_
        clear H a; intro a H
        refine e_opg H (wanted_true H rfl rfl rfl rfl) rfl (by decide) (x_move H rfl rfl) ?_
        clear H a; intro a H
        refine e_opg H (wanted_true H rfl rfl rfl rfl) rfl (by decide) (x_move H rfl rfl) ?_
        clear H a; intro a H
        refine e_callqg H (wanted_true H rfl rfl rfl rfl) rfl (by decide) rfl rfl (Try.call109 _) (chunks_any (pkA (opn l 1)).val.toNat w4 (by omega)) ?_
        clear H a
        rintro e wn ⟨rfl, hwn⟩
        rw [hwn]
        refine ⟨_, rfl, fun a H => ?_⟩
        refine e_opg H (wanted_true H rfl rfl rfl rfl) rfl (by decide) (x_binI H rfl rfl rfl (b_geq (b := false) (dec_f (by omega)))) ?_
        clear H a; intro a H
        refine e_op H rfl rfl (by decide) (x_pickF H rfl rfl rfl) ?_
        clear H a; intro a H
        refine e_nil (hR.out _ _ ?_)
        clear hR R
        have hba : (decide (rsEnd (pkC (opn l 1)).left (pkC (opn l 1)).err ≠ 0 ∨ chunksT (pkA (opn l 1)).val.toNat ≤ (pkB (opn l 1)).val.toNat)) = false := decide_eq_false (fun h => h.elim (fun h => h h1) h2)
        rw [hba]
        exact ⟨rfl, H.sub ⟨rfl, rfl, rfl, rfl, rfl, rfl, trivial⟩, rfl⟩
theorem in_nil (v : Value) (w0 : World) : Calls Try.prog 56 #[.pointer none, v] w0 fun e w' => e = .returned (.int .i64 1) ∧ w' = w0 := by
  refine calls_has (args := [.pointer none, v]) Try.func56 rfl Try.ntmps56 (Nat.le_of_ble_eq_true rfl) (fun a H => ?_)
  simp only [argl, Nat.reduceAdd] at H
  refine wp_seq_k (fun K1 hK1 => ?_)
  refine e_region (fun R hR => ?_)
  refine e_op H rfl rfl (by decide) (x_assign H rfl rfl) ?_
  clear H a; intro a H
  refine e_nil (hR.out _ _ ?_)
  clear hR R
  refine hK1 _ _ ?_
  clear hK1 K1
  refine wp_seq_k (fun K2 hK2 => ?_)
  refine wp_seq_k (fun K3 hK3 => ?_)
  refine e_region (fun R hR => ?_)
  refine e_op H rfl rfl (by decide) (x_move H rfl rfl) ?_
  clear H a; intro a H
  refine e_op H rfl rfl (by decide) (x_bin H rfl rfl rfl (by rw [eqGuard_at_pointer]; rfl) (b_pnil (c := true) Try.underlying65 rfl)) ?_
  clear H a; intro a H
  refine e_nil (hR.out _ _ ?_)
  clear hR R
  refine hK3 _ _ ?_
  clear hK3 K3
  refine c_true H rfl ?_
  refine wp_seq_k (fun K4 hK4 => ?_)
  refine e_region (fun R hR => ?_)
  refine e_op H rfl rfl (by decide) (x_assign H rfl rfl) ?_
  clear H a; intro a H
  refine e_nil (hR.out _ _ ?_)
  clear hR R
  refine hK4 _ _ ?_
  clear hK4 K4
  refine wp_ret ?_
  refine t_ret ?_
  exact ret1 H rfl rfl ⟨rfl, rfl⟩
end Go.Proofs.Ytknllmcpogoeoaa
