/- Opening a packet; a sender takes an acknowledgement: walked. -/
import Derived.Test.YtknllmcpogoeoaaT8
namespace Go.Proofs.Ytknllmcpogoeoaa
open Go.RowKit
set_option linter.unusedVariables false
set_option linter.unusedSimpArgs false
set_option maxRecDepth 100000
section
variable {P : Program} {a : Act} {N : Nat} {l : List (Nat × Value)} {w w' w2 : World} {o o2 : Oper} {v : Value} {R : Act → World → Prop} {ops : Array Oper} {d fuel : Nat} {listed : Array Bool} {md : Region.Mode} {S : World → Prop}
/-- a plain operation, or a store behind it in number -/
theorem g_twos (i j : Nat) (H : Has a N l) (hr : Region.ready md ops listed = [i, j])
    (hi : ops[i]? = some o) (hw : Region.wanted o (yielded ops a.tmps) = true) (hd : o.dst = some d) (hdN : d < N) (hy : (execOp a.eval o).run P w = .ok (.value v) w') (hE : S w')
    (hj : ops[j]? = some o2) (hw2 : Region.wanted o2 (yielded ops a.tmps) = true) (hd2 : o2.dst = none) (hy2 : (execOp a.eval o2).run P w = .ok .skip w2) (hE2 : S w2)
    (k : ∀ a, Has a N ((d, v) :: l) → wpAnyH P md ops (OnlyN R) S fuel (listed.setIfInBounds i true) a w')
    (k2 : wpAnyH P md ops (OnlyN R) S fuel (listed.setIfInBounds j true) a w2) : wpAnyH P md ops (OnlyN R) S (fuel + 1) listed a w := by
  refine wpAnyH_ready hr (by simp) (AllReadyH.cons hi (fun K hK => ?_) (AllReadyH.cons hj (fun K hK => ?_) AllReadyH.nil))
  · rw [if_pos hw]; unfold Oper.wp; rw [hy, Oper.upon_value, hd]; exact hK.out _ _ hE (fun _ => k _ (H.put hdN))
  · rw [if_pos hw2]; unfold Oper.wp; rw [hy2, Oper.upon_skip, hd2]; exact hK.out _ _ hE2 (fun _ => k2)
end
/-- copy into a part of the call's own bytes -/
theorem copy_over (w : World) (ty : TypeId) (B : Nat) (a : Option Addr) (n c k m : Nat) (l : List UInt8) (ax : Option Addr) (cx : Nat) (r : List UInt8) (ho : Ow w B a n c l) (hb : Bs w ax m r) (hk : k + m ≤ n) (dc : Nat) :
    ∃ w', (Builtin.copy_ #[22, 22] ty #[.slice (cutA a c k) m dc, .slice ax m cx]).run Try.prog w = .ok (.int .i64 (m : Int)) w' ∧ Ow w' B a n c (over l k r) ∧ w.grownBy w' (Value.slice a n c).ownBlock := by
  have hl := ho.leng
  have hr := hb.leng
  have hsz : (Try.prog.info? 5).map (·.size) = some 1 := by
    obtain ⟨i0, hi, hz0, hz1, hz2⟩ := info_parts info5
    rw [hi]; simp [hz1]
  unfold cutA
  by_cases h0 : m = 0
  · subst h0
    obtain rfl : r = [] := List.eq_nil_of_length_eq_zero hr
    refine ⟨w, ?_, ?_, World.grownBy.refl _ _⟩
    · exact run_copy_none (P := Try.prog) w 22 22 ty 5 _ ax _ dc 0 cx Try.underlying22 hsz rfl
    · unfold over; simpa using ho
  · rcases ho.form with ⟨rfl, rfl, rfl, rfl⟩ | ⟨g, cur, rfl, hg, hh, hn, hm, hs, ht⟩
    · omega
    · obtain ⟨b, off, rfl, hcell⟩ := hb.at (by omega)
      rw [if_neg (by omega)]
      simp only [Option.map_some, Addr.add_lit, Nat.zero_add]
      have hcl : (u8s r).length = m := by rw [u8s_len, hr]
      have hrun := run_copy_row (P := Try.prog) w 22 22 ty 5 g k m dc ⟨b, off, none⟩ m cx cur.toArray 5 (u8s r) Try.underlying22 hsz hh (by rw [hcl]; exact (Nat.min_self m).symm)
        (fun j v hv => by
          by_cases hj : j < m
          · rw [u8s_get r j (by omega)] at hv
            rw [Addr.add_lit, hcell j (by omega), hv]
          · rw [List.getElem?_eq_none (by omega)] at hv; cases hv) (by rw [hcl]; simp; omega) (u8s_one r)
      rw [hcl] at hrun
      refine ⟨_, hrun, ?_, ?_⟩
      · refine Ow.mk (cur := cur.take k ++ u8s r ++ cur.drop (k + m)) (by rw [over_len _ _ _ (by omega), hl]) hg (setRow_heap w g _ _ 5 (0, 0) hh) hn hm (by simp; omega) ?_
        have e0 : (cur.take k).length = k := by rw [List.length_take]; omega
        have e1 : List.take k cur = u8s (l.take k) := by
          have := congrArg (List.take k) ht
          rw [List.take_take, Nat.min_eq_left (by omega)] at this
          rw [this]; simp [u8s, List.map_take]
        have e3 : List.take (n - (k + m)) (List.drop (k + m) cur) = u8s (l.drop (k + m)) := by
          have := congrArg (List.drop (k + m)) ht
          rw [List.drop_take] at this
          rw [this]
          simp [u8s, List.map_drop]
        have e4 : (cur.take k ++ u8s r).length = k + m := by rw [List.length_append, e0, hcl]
        unfold over
        rw [List.take_append, e4, List.take_of_length_le (by rw [e4]; omega), e3, e1, u8s_app, u8s_app, hr]
      · refine ⟨rfl, rfl, rfl, by simp, fun j _ hj => ?_⟩
        exact setRow_other w g j _ (fun e => hj (by rw [e]; rfl))
theorem rdB_lt {w : World} {g q : Nat} {l : List UInt8} {e : Nat} (R : Rd w g q l e) : g < w.heap.size ∧ q ≠ g := by
  obtain ⟨hne, a, n, c, B, _⟩ := R
  exact ⟨B.lt, hne⟩
/-- what opening comes to -/
def OpPost (o : Opn) (w0 : World) (e : Ending) (w' : World) : Prop := Ext w0 w' ∧
  (o.err ≠ 0 → e = .returned (.tuple #[.pointer none, .int .u32 0, .int .i64 (o.err : Int)])) ∧
  (o.err = 0 → ∃ g q, e = .returned (.tuple #[.pointer (some ⟨g, 0, none⟩), .int .u32 (o.id : Int), .int .i64 0]) ∧ Rd w' g q o.left 0 ∧ w0.heap.size ≤ g ∧ w0.heap.size ≤ q)
theorem opPost_bad {o : Opn} {k : Nat} (h : o = ⟨k, 0, []⟩) (hk : k ≠ 0) {w0 w' : World} (E : Ext w0 w') (i : Int) (hi : i = (k : Int)) : OpPost o w0 (.returned (.tuple #[.pointer none, .int .u32 0, .int .i64 i])) w' := by
  subst h hi
  exact ⟨E, fun _ => rfl, fun h => absurd h hk⟩
theorem rsU_rng (l : List UInt8) (er most : Nat) : 0 ≤ (rsUint l er most).val ∧ (rsUint l er most).val ≤ most := by
  unfold rsUint
  split
  · simp
  · split
    · simp
    · split
      · simp
      · simp; omega
theorem rsB_rng (l : List UInt8) (er : Nat) : 0 ≤ (rsByte l er).val ∧ (rsByte l er).val ≤ 255 := by
  unfold rsByte
  split
  · simp
  · split
    · simp
    · rename_i b r
      have := b.toNat_lt
      simp; omega
theorem rsBytes_len (l : List UInt8) (er : Nat) (most : Int) (h0 : 0 ≤ most) : ((rsBytes l er most).body.length : Int) ≤ most := by
  unfold rsBytes
  split
  · simpa using h0
  · split
    · rename_i h1 h2
      unfold rdB at h2 ⊢
      rw [if_neg (by omega)] at h2 ⊢
      cases hu : rdU l with
      | none => rw [hu] at h2; simp at h2
      | some p =>
        obtain ⟨v, n⟩ := p
        simp only [hu] at h2 ⊢
        split
        · simpa using h0
        · split
          · simpa using h0
          · simp only [List.length_take, List.length_drop]; omega
    · simpa using h0
/-- one mark of a byte -/
theorem bit_mark (l : List UInt8) (i : Nat) : bits .and .u8 (nb l (i / 8) / (2 : Int) ^ (i % 8)) 1 = if bitAt l i then 1 else 0 := by
  have e : nb l (i / 8) / (2 : Int) ^ (i % 8) = ((nn l (i / 8) / 2 ^ (i % 8) : Nat) : Int) := by rw [nb_nn]; simp
  have hlt : nn l (i / 8) / 2 ^ (i % 8) < 256 := Nat.lt_of_le_of_lt (Nat.div_le_self _ _) (nn_lt l (i / 8))
  rw [e, show (1 : Int) = ((1 : Nat) : Int) by rfl, bits_and_u8 _ _ hlt (by omega), Nat.and_one_is_mod]
  have hb : bitAt l i = decide (nn l (i / 8) / 2 ^ (i % 8) % 2 = 1) := by
    unfold bitAt nn
    rw [BitVec.getLsbD, UInt8.toNat_toBitVec, Nat.testBit_eq_decide_div_mod_eq]
  rw [hb]
  by_cases h : nn l (i / 8) / 2 ^ (i % 8) % 2 = 1
  · simp [h]
  · have h0 : nn l (i / 8) / 2 ^ (i % 8) % 2 = 0 := by omega
    simp [h0]
def ints (l : List Nat) : List Value := l.map fun (k : Nat) => Value.int .i64 (k : Int)
theorem ints_len (l : List Nat) : (ints l).length = l.length := by simp [ints]
theorem ints_one (l : List Nat) : ∀ u ∈ ints l, u.oneCell' = true := by
  intro u hu
  obtain ⟨_, _, rfl⟩ := List.mem_map.1 hu
  rfl
theorem ints_get (l : List Nat) (k : Nat) (h : k < l.length) : (ints l)[k]? = some (.int .i64 ((l[k]?.getD 0 : Nat) : Int)) := by simp [ints, h]
theorem ints_app (l r : List Nat) : ints (l ++ r) = ints l ++ ints r := by simp [ints]
theorem bs155 (i : Int) (w : World) : (Instr.buildSlice 155 1 #[(0, .int .i64 i)]).run Try.prog w = .ok (.slice (some ⟨w.heap.size, 0, none⟩) 1 1) (w.alloc (.cells [.int .i64 i].toArray 3)) := by kernel_rfl
theorem Sn.frm {s : List Nat} {w w' : World} {B g : Nat} {v : Value} {sd : Snd} (h : Sn w B g v sd) (F : Frm s w w') (hg : g ∉ s) (hs : ∀ k, v.ownBlock = some k → k ∉ s) : Sn w' B g v sd := by
  obtain ⟨a, c, rfl, h2⟩ := h.file
  exact ⟨h.blk.frm F hg, ⟨a, c, rfl, h2.frm F (fun b off e => hs b (by rw [e]; rfl))⟩, h.len, h.idlt, h.flt, h.low⟩
theorem Rv.frm {s : List Nat} {w w' : World} {B g : Nat} {v : Value} {r : Rcv} (h : Rv w B g v r) (F : Frm s w w') (hg : g ∉ s) (hs : ∀ k, v.ownBlock = some k → k ∉ s) : Rv w' B g v r := by
  obtain ⟨a, c, rfl, h2⟩ := h.data
  exact ⟨h.blk.frm F hg, ⟨a, c, rfl, h2.frm F (fun b off e => hs b (by rw [e]; rfl))⟩, h.len, h.idlt, h.dlt, h.low⟩
/-- one mark of a sender is set -/
theorem Sn.set {w : World} {B g : Nat} {v : Value} {s : Snd} (h : Sn w B g v s) (i : Nat) (hi : i < 1024) : Sn (w.setCell ⟨g, 2 + i, none⟩ (.bool true)) B g v ⟨s.id, s.file, s.acked.set i true⟩ := by
  obtain ⟨a, c, rfl, h2⟩ := h.file
  have hb := h.blk.set_ (2 + i) (.bool true)
  rw [snd_set] at hb
  refine ⟨hb, ⟨a, c, rfl, ?_⟩, by simp [h.len], h.idlt, h.flt, h.low⟩
  refine h2.frm ((Frm.refl [g] w).st g (2 + i) (.bool true) (.inl (by simp))) (fun b off e hx => ?_)
  subst e
  simp only [List.mem_singleton] at hx
  subst hx
  exact own_blk_ne h2 h.blk (by decide) rfl
section
variable {P : Program} {a : Act} {N : Nat} {l : List (Nat × Value)} {w : World}
theorem ret3 {fn : Func} {t u y : Nat} {v1 v2 v3 : Value} {R : Ending → World → Prop} (H : Has a N l) (hr : fn.results = #[.tmp t, .tmp u, .tmp y]) (e1 : lk l t = some v1) (e2 : lk l u = some v2) (e3 : lk l y = some v3) (h : R (.returned (.tuple #[v1, v2, v3])) w) : bodyPost P fn R .ret a w := by
  have h1 : a.tmps[t]?.getD undef = v1 := by rw [H.at_ t _ e1]; rfl
  have h2 : a.tmps[u]?.getD undef = v2 := by rw [H.at_ u _ e2]; rfl
  have h3 : a.tmps[y]?.getD undef = v3 := by rw [H.at_ y _ e3]; rfl
  exact bodyPost_ret (v := .tuple #[v1, v2, v3]) (by simp [results, hr, h1, h2, h3]) H.nod h
end
theorem open_any (ad : Option Addr) (n c : Nat) (l : List UInt8) (k : Nat) (w0 : World) (hb : Bs w0 ad n l) (hz : ad = none → c = 0) (hnc : n ≤ c) (hn : n ≤ 140737488351232) :
    Calls Try.prog 112 #[.slice ad n c, .int .u8 (k : Int)] w0 (OpPost (opn l k) w0) := by
  have hl := hb.leng
  subst hl
  rcases (show l.length < 4 ∨ 200 < l.length ∨ (4 ≤ l.length ∧ l.length ≤ 200) by omega) with h1 | h2 | ⟨h3, h4⟩
  · skip
    refine calls_has (args := [.slice ad l.length c, .int .u8 (k : Int)]) Try.func112 rfl Try.ntmps112 (Nat.le_of_ble_eq_true rfl) (fun a H => ?_)
    simp only [argl, Nat.reduceAdd] at H
    refine wp_seq_k (fun K1 hK1 => ?_)
    refine e_region (fun R hR => ?_)
    refine e_op H rfl rfl (by decide) (x_assign H rfl rfl) ?_
    clear H a; intro a H
    refine e_op H rfl rfl (by decide) (x_assign H rfl rfl) ?_
    clear H a; intro a H
    refine e_op H rfl rfl (by decide) (x_assign H rfl rfl) ?_
    clear H a; intro a H
    refine e_nil (hR.out _ _ ?_)
    clear hR R
    refine hK1 _ _ ?_
    clear hK1 K1
    refine wp_seq_k (fun K2 hK2 => ?_)
    refine wp_seq_k (fun K3 hK3 => ?_)
    refine e_region (fun R hR => ?_)
    refine e_op H rfl rfl (by decide) (x_move H rfl rfl) ?_
    clear H a; intro a H
    refine e_op H rfl rfl (by decide) (x_builtin H rfl rfl (fun cs => len_sl Try.underlying22)) ?_
    clear H a; intro a H
    refine e_op H rfl rfl (by decide) (x_binI H rfl rfl rfl (b_lss (b := true) (dec_t (by omega)))) ?_
    clear H a; intro a H
    refine e_op H rfl rfl (by decide) (x_move H rfl rfl) ?_
    clear H a; intro a H
    refine e_skip H (wanted_false H rfl rfl rfl rfl) rfl (by decide) ?_
    clear H a; intro a H
    refine e_skip H (wanted_false H rfl rfl rfl rfl) rfl (by decide) ?_
    clear H a; intro a H
    refine e_skip H (wanted_false H rfl rfl rfl rfl) rfl (by decide) ?_
    clear H a; intro a H
    refine e_op H rfl rfl (by decide) (x_pickT H rfl rfl rfl) ?_
    clear H a; intro a H
    refine e_nil (hR.out _ _ ?_)
    clear hR R
    refine hK3 _ _ ?_
    clear hK3 K3
    refine c_true H rfl ?_
    refine wp_seq_k (fun K4 hK4 => ?_)
    refine e_region (fun R hR => ?_)
    refine e_op H rfl rfl (by decide) (x_assign H rfl rfl) ?_
    clear H a; intro a H
    refine e_op H rfl rfl (by decide) (x_assign H rfl rfl) ?_
    clear H a; intro a H
    refine e_op H rfl rfl (by decide) (x_assign H rfl rfl) ?_
    clear H a; intro a H
    refine e_nil (hR.out _ _ ?_)
    clear hR R
    refine hK4 _ _ ?_
    clear hK4 K4
    refine wp_ret ?_
    refine t_ret ?_
    have ho : opn l k = ⟨6, 0, []⟩ := by unfold opn; rw [if_pos (.inl h1)]
    exact ret3 H rfl rfl rfl rfl (opPost_bad ho (by decide) (Ext.refl w0) _ rfl)
  · skip
    refine calls_has (args := [.slice ad l.length c, .int .u8 (k : Int)]) Try.func112 rfl Try.ntmps112 (Nat.le_of_ble_eq_true rfl) (fun a H => ?_)
    simp only [argl, Nat.reduceAdd] at H
    refine wp_seq_k (fun K1 hK1 => ?_)
    refine e_region (fun R hR => ?_)
    refine e_op H rfl rfl (by decide) (x_assign H rfl rfl) ?_
    clear H a; intro a H
    refine e_op H rfl rfl (by decide) (x_assign H rfl rfl) ?_
    clear H a; intro a H
    refine e_op H rfl rfl (by decide) (x_assign H rfl rfl) ?_
    clear H a; intro a H
    refine e_nil (hR.out _ _ ?_)
    clear hR R
    refine hK1 _ _ ?_
    clear hK1 K1
    refine wp_seq_k (fun K2 hK2 => ?_)
    refine wp_seq_k (fun K3 hK3 => ?_)
    refine e_region (fun R hR => ?_)
    refine e_op H rfl rfl (by decide) (x_move H rfl rfl) ?_
    clear H a; intro a H
    refine e_op H rfl rfl (by decide) (x_builtin H rfl rfl (fun cs => len_sl Try.underlying22)) ?_
    clear H a; intro a H
    refine e_op H rfl rfl (by decide) (x_binI H rfl rfl rfl (b_lss (b := false) (dec_f (by omega)))) ?_
    clear H a; intro a H
    refine e_op H rfl rfl (by decide) (x_move H rfl rfl) ?_
    clear H a; intro a H
    refine e_opg H (wanted_true H rfl rfl rfl rfl) rfl (by decide) (x_move H rfl rfl) ?_
    clear H a; intro a H
    refine e_opg H (wanted_true H rfl rfl rfl rfl) rfl (by decide) (x_builtin H rfl rfl (fun cs => len_sl Try.underlying22)) ?_
    clear H a; intro a H
    refine e_opg H (wanted_true H rfl rfl rfl rfl) rfl (by decide) (x_binI H rfl rfl rfl (b_gtr (b := true) (dec_t (by omega)))) ?_
    clear H a; intro a H
    refine e_op H rfl rfl (by decide) (x_pickF H rfl rfl rfl) ?_
    clear H a; intro a H
    refine e_nil (hR.out _ _ ?_)
    clear hR R
    refine hK3 _ _ ?_
    clear hK3 K3
    refine c_true H rfl ?_
    refine wp_seq_k (fun K4 hK4 => ?_)
    refine e_region (fun R hR => ?_)
    refine e_op H rfl rfl (by decide) (x_assign H rfl rfl) ?_
    clear H a; intro a H
    refine e_op H rfl rfl (by decide) (x_assign H rfl rfl) ?_
    clear H a; intro a H
    refine e_op H rfl rfl (by decide) (x_assign H rfl rfl) ?_
    clear H a; intro a H
    refine e_nil (hR.out _ _ ?_)
    clear hR R
    refine hK4 _ _ ?_
    clear hK4 K4
    refine wp_ret ?_
    refine t_ret ?_
    have ho : opn l k = ⟨6, 0, []⟩ := by unfold opn; rw [if_pos (.inr h2)]
    exact ret3 H rfl rfl rfl rfl (opPost_bad ho (by decide) (Ext.refl w0) _ rfl)
  · skip
    refine calls_has (args := [.slice ad l.length c, .int .u8 (k : Int)]) Try.func112 rfl Try.ntmps112 (Nat.le_of_ble_eq_true rfl) (fun a H => ?_)
    simp only [argl, Nat.reduceAdd] at H
    refine wp_seq_k (fun K1 hK1 => ?_)
    refine e_region (fun R hR => ?_)
    refine e_op H rfl rfl (by decide) (x_assign H rfl rfl) ?_
    clear H a; intro a H
    refine e_op H rfl rfl (by decide) (x_assign H rfl rfl) ?_
    clear H a; intro a H
    refine e_op H rfl rfl (by decide) (x_assign H rfl rfl) ?_
    clear H a; intro a H
    refine e_nil (hR.out _ _ ?_)
    clear hR R
    refine hK1 _ _ ?_
    clear hK1 K1
    refine wp_seq_k (fun K2 hK2 => ?_)
    refine wp_seq_k (fun K3 hK3 => ?_)
    refine e_region (fun R hR => ?_)
    refine e_op H rfl rfl (by decide) (x_move H rfl rfl) ?_
    clear H a; intro a H
    refine e_op H rfl rfl (by decide) (x_builtin H rfl rfl (fun cs => len_sl Try.underlying22)) ?_
    clear H a; intro a H
    refine e_op H rfl rfl (by decide) (x_binI H rfl rfl rfl (b_lss (b := false) (dec_f (by omega)))) ?_
    clear H a; intro a H
    refine e_op H rfl rfl (by decide) (x_move H rfl rfl) ?_
    clear H a; intro a H
    refine e_opg H (wanted_true H rfl rfl rfl rfl) rfl (by decide) (x_move H rfl rfl) ?_
    clear H a; intro a H
    refine e_opg H (wanted_true H rfl rfl rfl rfl) rfl (by decide) (x_builtin H rfl rfl (fun cs => len_sl Try.underlying22)) ?_
    clear H a; intro a H
    refine e_opg H (wanted_true H rfl rfl rfl rfl) rfl (by decide) (x_binI H rfl rfl rfl (b_gtr (b := false) (dec_f (by omega)))) ?_
    clear H a; intro a H
    refine e_op H rfl rfl (by decide) (x_pickF H rfl rfl rfl) ?_
    clear H a; intro a H
    refine e_nil (hR.out _ _ ?_)
    clear hR R
    refine hK3 _ _ ?_
    clear hK3 K3
    refine c_false H rfl ?_
    refine wp_skip ?_
    refine hK2 _ _ ?_
    clear hK2 K2
    refine wp_seq_k (fun K4 hK4 => ?_)
    refine e_region (fun R hR => ?_)
    refine e_op H rfl rfl (by decide) (x_move H rfl rfl) ?_
    clear H a; intro a H
    refine e_op H rfl rfl (by decide) (x_move H rfl rfl) ?_
    clear H a; intro a H
    refine e_op H rfl rfl (by decide) (x_builtin H rfl rfl (fun cs => len_sl Try.underlying22)) ?_
    clear H a; intro a H
    refine e_op H rfl rfl (by decide) (x_binI H rfl rfl rfl (b_sub (z := ((l.length - 4 : Nat) : Int)) (by rw [IntKind.wrap_i64]; omega))) ?_
    clear H a; intro a H
    refine e_op H rfl rfl (by decide) (x_slice H rfl rfl rfl rfl (sl_hi (hi := l.length - 4) Try.underlying22 Try.sizeOf5 rfl (by omega))) ?_
    clear H a; intro a H
    refine e_op H rfl rfl (by decide) (x_assign H rfl rfl) ?_
    clear H a; intro a H
    refine e_nil (hR.out _ _ ?_)
    clear hR R
    refine hK4 _ _ ?_
    clear hK4 K4
    refine wp_seq_k (fun K5 hK5 => ?_)
    refine wp_seq_k (fun K6 hK6 => ?_)
    refine e_region (fun R hR => ?_)
    have hB0 : Bs w0 ad (l.length - 4) (l.take (l.length - 4)) := bs_hi hb _ (by omega)
    refine e_op H rfl rfl (by decide) (x_move H rfl rfl) ?_
    clear H a; intro a H
    refine e_callq H rfl rfl (by decide) rfl rfl (Try.call110 _) (clone_bs ad (l.length - 4) c (l.take (l.length - 4)) w0 hB0 hz (by omega)) ?_
    clear H a
    rintro e w1 ⟨a1, c1, rfl, O1, E1⟩
    refine ⟨_, rfl, fun a H => ?_⟩
    refine e_callq H rfl rfl (by decide) rfl rfl (Try.call115 _) (seal_any w0.heap.size a1 (l.length - 4) c1 (l.take (l.length - 4)) w1 O1 (by omega) E1.sz) ?_
    clear H a
    rintro e w2 ⟨a2, c2, rfl, O2, G2⟩
    refine ⟨_, rfl, fun a H => ?_⟩
    have E2 : Ext w0 w2 := E1.grown G2 (fun k hk => (World.ownsRow.lt O1 k hk).1)
    refine e_op H rfl rfl (by decide) (x_move H rfl rfl) ?_
    clear H a; intro a H
    refine e_callp H rfl rfl (by decide) rfl rfl (Try.call114 _) (equal_any a2 _ c2 (tseal (l.take (l.length - 4))) ad l.length c l w2 O2.bs (E2.bs hb)) ?_
    clear H a; intro a H
    refine e_op H rfl rfl (by decide) (x_un H rfl rfl (u_not (c := !decide (tseal (l.take (l.length - 4)) = l)) rfl)) ?_
    clear H a; intro a H
    refine e_nil (hR.out _ _ ?_)
    clear hR R
    refine hK6 _ _ ?_
    clear hK6 K6
    refine c_split H rfl (fun ht => ?_) (fun ht => ?_)
    · skip
      have hne : tseal (l.take (l.length - 4)) ≠ l := by simpa using ht
      have ho : opn l k = ⟨7, 0, []⟩ := by unfold opn; rw [if_neg (by omega), if_pos hne]
      refine wp_seq_k (fun K7 hK7 => ?_)
      refine e_region (fun R hR => ?_)
      refine e_op H rfl rfl (by decide) (x_assign H rfl rfl) ?_
      clear H a; intro a H
      refine e_op H rfl rfl (by decide) (x_assign H rfl rfl) ?_
      clear H a; intro a H
      refine e_op H rfl rfl (by decide) (x_assign H rfl rfl) ?_
      clear H a; intro a H
      refine e_nil (hR.out _ _ ?_)
      clear hR R
      refine hK7 _ _ ?_
      clear hK7 K7
      refine wp_ret ?_
      refine t_ret ?_
      exact ret3 H rfl rfl rfl rfl (opPost_bad ho (by decide) E2 _ rfl)
    · skip
      have heq : tseal (l.take (l.length - 4)) = l := by simpa using ht
      clear O1 G2 E1 ht
      refine wp_skip ?_
      refine hK5 _ _ ?_
      clear hK5 K5
      refine wp_seq_k (fun K8 hK8 => ?_)
      refine e_region (fun R hR => ?_)
      refine e_op H rfl rfl (by decide) (x_move H rfl rfl) ?_
      clear H a; intro a H
      refine e_callq H rfl rfl (by decide) rfl rfl (Try.call77 _) (newReader_any ad (l.length - 4) c (l.take (l.length - 4)) w2 (E2.bs hB0) hz (by omega)) ?_
      clear H a
      rintro e w3 ⟨g, q, rfl, Qd, hg, hq, E3⟩
      refine ⟨_, rfl, fun a H => ?_⟩
      have F3 := E2.tr E3
      have hs2 := E2.sz
      clear E3
      refine e_op H rfl rfl (by decide) (x_assign H rfl rfl) ?_
      clear H a; intro a H
      refine e_nil (hR.out _ _ ?_)
      clear hR R
      refine hK8 _ _ ?_
      clear hK8 K8
      refine wp_seq_k (fun K9 hK9 => ?_)
      refine wp_seq_k (fun K10 hK10 => ?_)
      refine e_region (fun R hR => ?_)
      refine e_op H rfl rfl (by decide) (x_move H rfl rfl) ?_
      clear H a; intro a H
      refine e_callq H rfl rfl (by decide) rfl rfl (Try.call84 _) (rByte_any g q (l.take (l.length - 4)) 0 w3 Qd) ?_
      clear H a
      rintro e w4 ⟨rfl, Qd4, Fr4⟩
      refine ⟨_, rfl, fun a H => ?_⟩
      have F4 := Fr4.ext F3 (by simp; omega)
      clear Fr4 F3 Qd
      refine e_op H rfl rfl (by decide) (x_move H rfl rfl) ?_
      clear H a; intro a H
      refine e_op H rfl rfl (by decide) (x_binI H rfl rfl rfl (b_neq (b := ((rsByte (l.take (l.length - 4)) 0).val != (k : Int))) (rfl))) ?_
      clear H a; intro a H
      refine e_nil (hR.out _ _ ?_)
      clear hR R
      refine hK10 _ _ ?_
      clear hK10 K10
      refine c_split H rfl (fun ht => ?_) (fun ht => ?_)
      · skip
        have hne : (rsByte (l.take (l.length - 4)) 0).val ≠ (k : Int) := by simpa using ht
        have ho : opn l k = ⟨6, 0, []⟩ := by unfold opn; rw [if_neg (by omega), if_neg (by simp [heq]), if_pos hne]
        refine wp_seq_k (fun K11 hK11 => ?_)
        refine e_region (fun R hR => ?_)
        refine e_op H rfl rfl (by decide) (x_assign H rfl rfl) ?_
        clear H a; intro a H
        refine e_op H rfl rfl (by decide) (x_assign H rfl rfl) ?_
        clear H a; intro a H
        refine e_op H rfl rfl (by decide) (x_assign H rfl rfl) ?_
        clear H a; intro a H
        refine e_nil (hR.out _ _ ?_)
        clear hR R
        refine hK11 _ _ ?_
        clear hK11 K11
        refine wp_ret ?_
        refine t_ret ?_
        exact ret3 H rfl rfl rfl rfl (opPost_bad ho (by decide) F4 _ rfl)
      · skip
        have hkk : (rsByte (l.take (l.length - 4)) 0).val = (k : Int) := by simpa using ht
        clear ht
        refine wp_skip ?_
        refine hK9 _ _ ?_
        clear hK9 K9
        refine wp_seq_k (fun K12 hK12 => ?_)
        refine e_region (fun R hR => ?_)
        refine e_op H rfl rfl (by decide) (x_move H rfl rfl) ?_
        clear H a; intro a H
        refine e_callq H rfl rfl (by decide) rfl rfl (Try.call78 _) (rUint_any g q (rsByte (l.take (l.length - 4)) 0).left (rsByte (l.take (l.length - 4)) 0).err 4294967295 w4 Qd4 (by omega)) ?_
        clear H a
        rintro e w5 ⟨rfl, Qd5, Fr5⟩
        refine ⟨_, rfl, fun a H => ?_⟩
        have F5 := Fr5.ext F4 (by simp; omega)
        have hrng := rsU_rng (rsByte (l.take (l.length - 4)) 0).left (rsByte (l.take (l.length - 4)) 0).err 4294967295
        clear Fr5 F4 Qd4
        refine e_op H rfl rfl (by decide) (x_conv H rfl rfl (c_int (z := (rsUint (rsByte (l.take (l.length - 4)) 0).left (rsByte (l.take (l.length - 4)) 0).err 4294967295).val) Try.underlying56 Try.underlying52 (by rw [IntKind.wrap_u32]; omega))) ?_
        clear H a; intro a H
        refine e_op H rfl rfl (by decide) (x_assign H rfl rfl) ?_
        clear H a; intro a H
        refine e_nil (hR.out _ _ ?_)
        clear hR R
        refine hK12 _ _ ?_
        clear hK12 K12
        refine wp_seq_k (fun K13 hK13 => ?_)
        refine wp_seq_k (fun K14 hK14 => ?_)
        refine e_region (fun R hR => ?_)
        refine e_op H rfl rfl (by decide) (x_move H rfl rfl) ?_
        clear H a; intro a H
        refine e_callq H rfl rfl (by decide) rfl rfl (Try.call86 _) (rErr_any g q (rsUint (rsByte (l.take (l.length - 4)) 0).left (rsByte (l.take (l.length - 4)) 0).err 4294967295).left (rsUint (rsByte (l.take (l.length - 4)) 0).left (rsByte (l.take (l.length - 4)) 0).err 4294967295).err w5 Qd5) ?_
        clear H a
        rintro e w6 ⟨rfl, rfl⟩
        refine ⟨_, rfl, fun a H => ?_⟩
        refine e_op H rfl rfl (by decide) (x_binI H rfl rfl rfl (b_neq (b := (((rsUint (rsByte (l.take (l.length - 4)) 0).left (rsByte (l.take (l.length - 4)) 0).err 4294967295).err : Int) != 0)) (rfl))) ?_
        clear H a; intro a H
        refine e_nil (hR.out _ _ ?_)
        clear hR R
        refine hK14 _ _ ?_
        clear hK14 K14
        refine c_split H rfl (fun ht => ?_) (fun ht => ?_)
        · skip
          have hne : (rsUint (rsByte (l.take (l.length - 4)) 0).left (rsByte (l.take (l.length - 4)) 0).err 4294967295).err ≠ 0 := by intro h; rw [h] at ht; cases ht
          have ho : opn l k = ⟨6, 0, []⟩ := by unfold opn; rw [if_neg (by omega), if_neg (by simp [heq]), if_neg (by simp [hkk]), if_pos hne]
          refine wp_seq_k (fun K15 hK15 => ?_)
          refine e_region (fun R hR => ?_)
          refine e_op H rfl rfl (by decide) (x_assign H rfl rfl) ?_
          clear H a; intro a H
          refine e_op H rfl rfl (by decide) (x_assign H rfl rfl) ?_
          clear H a; intro a H
          refine e_op H rfl rfl (by decide) (x_assign H rfl rfl) ?_
          clear H a; intro a H
          refine e_nil (hR.out _ _ ?_)
          clear hR R
          refine hK15 _ _ ?_
          clear hK15 K15
          refine wp_ret ?_
          refine t_ret ?_
          exact ret3 H rfl rfl rfl rfl (opPost_bad ho (by decide) F5 _ rfl)
        · skip
          have her : (rsUint (rsByte (l.take (l.length - 4)) 0).left (rsByte (l.take (l.length - 4)) 0).err 4294967295).err = 0 := by simpa using ht
          have ho : opn l k = ⟨0, (rsUint (rsByte (l.take (l.length - 4)) 0).left (rsByte (l.take (l.length - 4)) 0).err 4294967295).val.toNat, (rsUint (rsByte (l.take (l.length - 4)) 0).left (rsByte (l.take (l.length - 4)) 0).err 4294967295).left⟩ := by unfold opn; rw [if_neg (by omega), if_neg (by simp [heq]), if_neg (by simp [hkk]), if_neg (by simp [her])]
          refine wp_skip ?_
          refine hK13 _ _ ?_
          clear hK13 K13
          refine wp_seq_k (fun K16 hK16 => ?_)
          refine e_region (fun R hR => ?_)
          refine e_op H rfl rfl (by decide) (x_move H rfl rfl) ?_
          clear H a; intro a H
          refine e_op H rfl rfl (by decide) (x_move H rfl rfl) ?_
          clear H a; intro a H
          refine e_op H rfl rfl (by decide) (x_assign H rfl rfl) ?_
          clear H a; intro a H
          refine e_op H rfl rfl (by decide) (x_assign H rfl rfl) ?_
          clear H a; intro a H
          refine e_op H rfl rfl (by decide) (x_assign H rfl rfl) ?_
          clear H a; intro a H
          refine e_nil (hR.out _ _ ?_)
          clear hR R
          refine hK16 _ _ ?_
          clear hK16 K16
          refine wp_ret ?_
          rw [her] at Qd5
          refine ret3 H rfl rfl rfl rfl ?_
          rw [ho]
          exact ⟨F5, fun h => absurd rfl h, fun _ => ⟨g, q, by rw [Int.toNat_of_nonneg hrng.1], Qd5, by omega, by omega⟩⟩
end Go.Proofs.Ytknllmcpogoeoaa
