/- RingWide, walked. -/
import Derived.Test.YtknllmcpogoeoaaRu
namespace Go.Proofs.Ytknllmcpogoeoaa
open Go.RowKit
set_option linter.unusedVariables false
set_option linter.unusedSimpArgs false
set_option maxRecDepth 100000
/-- a record copied into a block of its own -/
theorem copy_rec (w : World) (y : Rcd) (u : Value) (h16 : y.words.length = 16) :
    Blk ((w.alloc (.cells zero95.toArray 95)).setRow w.heap.size (y.cells u).toArray) w.heap.size 95 (y.cells u) ∧ Ext w ((w.alloc (.cells zero95.toArray 95)).setRow w.heap.size (y.cells u).toArray) :=
  ⟨(Blk.new w 95 zero95).row _, ((Ext.refl w).al _).row_ (Nat.le_refl _) _⟩
theorem ringWide_any (ca cb comp first : Nat) (pa : Option Addr) (len pc : Nat) (ss : List RStep) (w0 : World) (hr : Rt w0 pa len ss) (ha : ca ≤ 65535) (hb : cb ≤ 65535) (hc : comp ≤ 255) (hf : first ≤ 4294967295) (hlen : len ≤ 8796093021952) :
    Calls Try.prog 23 #[.int .u16 (ca : Int), .int .u16 (cb : Int), .agg (plCells comp first (.slice pa len pc)).toArray] w0 fun e w' => e = .returned (.bool true) ∧ Ext w0 w' := by
  have hss : ∀ s ∈ ss, s.ok := fun s hs => by
    obtain ⟨k, hk⟩ := List.getElem?_of_mem hs
    exact (hr.cell k s hk).1
  refine calls_has (args := [.int .u16 (ca : Int), .int .u16 (cb : Int), .agg (plCells comp first (.slice pa len pc)).toArray]) Try.func23 rfl Try.ntmps23 (Nat.le_of_ble_eq_true rfl) (fun a H => ?_)
  simp only [argl, Nat.reduceAdd] at H
  refine wp_seq_k (fun K1 hK1 => ?_)
  refine e_region (fun R hR => ?_)
  refine e_op H rfl rfl (by decide) (x_box H rfl rfl bx_new) ?_
  clear H a; intro a H
  have B1 := Blk.new w0 80 (plCells comp first (.slice pa len pc))
  have E1 := (Ext.refl w0).al (.cells (plCells comp first (.slice pa len pc)).toArray 80)
  obtain ⟨g1, hg1⟩ : ∃ g, g = w0.heap.size := ⟨_, rfl⟩
  rw [← hg1] at H B1
  generalize w0.alloc (.cells (plCells comp first (.slice pa len pc)).toArray 80) = w1 at *
  refine e_op H rfl rfl (by decide) (x_assign H rfl rfl) ?_
  clear H a; intro a H
  refine e_nil (hR.out _ _ ?_)
  clear hR R
  refine hK1 _ _ ?_
  clear hK1 K1
  refine wp_seq_k (fun K2 hK2 => ?_)
  refine wp_seq_k (fun K3 hK3 => ?_)
  refine e_region (fun R hR => ?_)
  refine e_callq H rfl rfl (by decide) rfl rfl (Try.call65 _) (rawake_any w1) ?_
  clear H a
  rintro e w2 ⟨rfl, F2⟩
  refine ⟨_, rfl, fun a H => ?_⟩
  have E2 := E1.tr F2
  have B2 := B1.ext F2
  refine e_op H rfl rfl (by decide) (x_un H rfl rfl (u_not (c := false) (rfl))) ?_
  clear H a; intro a H
  refine e_nil (hR.out _ _ ?_)
  clear hR R
  refine hK3 _ _ ?_
  clear hK3 K3
  refine c_false H rfl ?_
  refine wp_skip ?_
  refine hK2 _ _ ?_
  clear hK2 K2
  refine wp_seq_k (fun K4 hK4 => ?_)
  refine e_region (fun R hR => ?_)
  refine e_op H rfl rfl (by decide) (x_move H rfl rfl) ?_
  clear H a; intro a H
  refine e_op H rfl rfl (by decide) (x_move H rfl rfl) ?_
  clear H a; intro a H
  refine e_op H rfl rfl (by decide) (x_builtin H rfl rfl (fun cs => bi_min (z := ((min ca cb : Nat) : Int)) (by split <;> omega))) ?_
  clear H a; intro a H
  refine e_op H rfl rfl (by decide) (x_binI H rfl rfl rfl (b_rem (z := ((min ca cb % 300 : Nat) : Int)) (by decide) (by rw [Int.tmod_eq_emod_of_nonneg (by omega)]; omega))) ?_
  clear H a; intro a H
  refine e_op H rfl rfl (by decide) (x_conv H rfl rfl (c_int (z := ((min ca cb % 300 : Nat) : Int)) Try.underlying47 Try.underlying3 (by rw [IntKind.wrap_i64]; omega))) ?_
  clear H a; intro a H
  refine e_op H rfl rfl (by decide) (x_binI H rfl rfl rfl (b_add (z := (1 + ((min ca cb % 300 : Nat) : Int))) (by rw [IntKind.wrap_i64]; omega))) ?_
  clear H a; intro a H
  refine e_callq H rfl rfl (by decide) rfl rfl (Try.call66 _) (newRn (1 + ((min ca cb % 300 : Nat) : Int)) w2 (by omega) (by omega) w0.heap.size E2.sz) ?_
  clear H a
  rintro e w3 ⟨gr, rfl, Rr, F3, hgr⟩
  refine ⟨_, rfl, fun a H => ?_⟩
  have E3 := E2.tr F3
  have B3 := B2.ext F3
  refine e_op H rfl rfl (by decide) (x_move H rfl rfl) ?_
  clear H a; intro a H
  refine e_op H rfl rfl (by decide) (x_ext0 H rfl rfl) ?_
  clear H a; intro a H
  refine e_op H rfl rfl (by decide) (x_ext1 H rfl rfl) ?_
  clear H a; intro a H
  refine e_op H rfl rfl (by decide) (x_assign H rfl rfl) ?_
  clear H a; intro a H
  refine e_op H rfl rfl (by decide) (x_assign H rfl rfl) ?_
  clear H a; intro a H
  refine e_nil (hR.out _ _ ?_)
  clear hR R
  refine hK4 _ _ ?_
  clear hK4 K4
  refine wp_seq_k (fun K5 hK5 => ?_)
  refine e_region (fun R hR => ?_)
  refine e_op H rfl rfl (by decide) (x_move H rfl rfl) ?_
  clear H a; intro a H
  refine e_op H rfl rfl (by decide) (x_move H rfl rfl) ?_
  clear H a; intro a H
  refine e_op H rfl rfl (by decide) (x_builtin H rfl rfl (fun cs => bi_min (z := ((min ca cb : Nat) : Int)) (by split <;> omega))) ?_
  clear H a; intro a H
  refine e_op H rfl rfl (by decide) (x_binI H rfl rfl rfl (b_rem (z := ((min ca cb % 300 : Nat) : Int)) (by decide) (by rw [Int.tmod_eq_emod_of_nonneg (by omega)]; omega))) ?_
  clear H a; intro a H
  refine e_op H rfl rfl (by decide) (x_conv H rfl rfl (c_int (z := ((min ca cb % 300 : Nat) : Int)) Try.underlying47 Try.underlying3 (by rw [IntKind.wrap_i64]; omega))) ?_
  clear H a; intro a H
  refine e_op H rfl rfl (by decide) (x_binI H rfl rfl rfl (b_add (z := (1 + ((min ca cb % 300 : Nat) : Int))) (by rw [IntKind.wrap_i64]; omega))) ?_
  clear H a; intro a H
  refine e_op H rfl rfl (by decide) (x_move H rfl rfl) ?_
  clear H a; intro a H
  refine e_op H rfl rfl (by decide) (x_move H rfl rfl) ?_
  clear H a; intro a H
  refine e_op H rfl rfl (by decide) (x_builtin H rfl rfl (fun cs => bi_max (z := ((max ca cb : Nat) : Int)) (by split <;> omega))) ?_
  clear H a; intro a H
  refine e_op H rfl rfl (by decide) (x_binI H rfl rfl rfl (b_rem (z := ((max ca cb % 100 : Nat) : Int)) (by decide) (by rw [Int.tmod_eq_emod_of_nonneg (by omega)]; omega))) ?_
  clear H a; intro a H
  refine e_op H rfl rfl (by decide) (x_conv H rfl rfl (c_int (z := ((max ca cb % 100 : Nat) : Int)) Try.underlying47 Try.underlying3 (by rw [IntKind.wrap_i64]; omega))) ?_
  clear H a; intro a H
  refine e_op H rfl rfl (by decide) (x_binI H rfl rfl rfl (b_add (z := (1 + ((min ca cb % 300 : Nat) : Int) + ((max ca cb % 100 : Nat) : Int))) (by rw [IntKind.wrap_i64]; omega))) ?_
  clear H a; intro a H
  refine e_callq H rfl rfl (by decide) rfl rfl (Try.call66 _) (newRn (1 + ((min ca cb % 300 : Nat) : Int) + ((max ca cb % 100 : Nat) : Int)) w3 (by omega) (by omega) w0.heap.size E3.sz) ?_
  clear H a
  rintro e w4 ⟨gs, rfl, Rs, F4, hgs⟩
  refine ⟨_, rfl, fun a H => ?_⟩
  have E4 := E3.tr F4
  have B4 := B3.ext F4
  have hrs : gs ≠ gr := by have := Rr.blk.lt; omega
  replace Rr := Rr.ext F4
  refine e_op H rfl rfl (by decide) (x_move H rfl rfl) ?_
  clear H a; intro a H
  refine e_op H rfl rfl (by decide) (x_ext0 H rfl rfl) ?_
  clear H a; intro a H
  refine e_op H rfl rfl (by decide) (x_ext1 H rfl rfl) ?_
  clear H a; intro a H
  refine e_op H rfl rfl (by decide) (x_assign H rfl rfl) ?_
  clear H a; intro a H
  refine e_op H rfl rfl (by decide) (x_assign H rfl rfl) ?_
  clear H a; intro a H
  refine e_nil (hR.out _ _ ?_)
  clear hR R
  refine hK5 _ _ ?_
  clear hK5 K5
  refine wp_seq_k (fun K6 hK6 => ?_)
  refine wp_seq_k (fun K7 hK7 => ?_)
  refine e_region (fun R hR => ?_)
  refine e_op H rfl rfl (by decide) (x_move H rfl rfl) ?_
  clear H a; intro a H
  refine e_op H rfl rfl (by decide) (x_binI H rfl rfl rfl (b_neq (b := false) (rfl))) ?_
  clear H a; intro a H
  refine e_op H rfl rfl (by decide) (x_move H rfl rfl) ?_
  clear H a; intro a H
  refine e_opg H (wanted_true H rfl rfl rfl rfl) rfl (by decide) (x_move H rfl rfl) ?_
  clear H a; intro a H
  refine e_opg H (wanted_true H rfl rfl rfl rfl) rfl (by decide) (x_binI H rfl rfl rfl (b_neq (b := false) (rfl))) ?_
  clear H a; intro a H
  refine e_op H rfl rfl (by decide) (x_pickF H rfl rfl rfl) ?_
  clear H a; intro a H
  refine e_op H rfl rfl (by decide) (x_move H rfl rfl) ?_
  clear H a; intro a H
  refine e_opg H (wanted_true H rfl rfl rfl rfl) rfl (by decide) (x_move H rfl rfl) ?_
  clear H a; intro a H
  refine e_opg H (wanted_true H rfl rfl rfl rfl) rfl (by decide) (x_bin H rfl rfl rfl (by rw [eqGuard_at_pointer]; rfl) (b_pnil (c := false) under81 rfl)) ?_
  clear H a; intro a H
  refine e_op H rfl rfl (by decide) (x_pickF H rfl rfl rfl) ?_
  clear H a; intro a H
  refine e_op H rfl rfl (by decide) (x_move H rfl rfl) ?_
  clear H a; intro a H
  refine e_opg H (wanted_true H rfl rfl rfl rfl) rfl (by decide) (x_move H rfl rfl) ?_
  clear H a; intro a H
  refine e_opg H (wanted_true H rfl rfl rfl rfl) rfl (by decide) (x_bin H rfl rfl rfl (by rw [eqGuard_at_pointer]; rfl) (b_pnil (c := false) under81 rfl)) ?_
  clear H a; intro a H
  refine e_op H rfl rfl (by decide) (x_pickF H rfl rfl rfl) ?_
  clear H a; intro a H
  refine e_nil (hR.out _ _ ?_)
  clear hR R
  refine hK7 _ _ ?_
  clear hK7 K7
  refine c_false H rfl ?_
  refine wp_skip ?_
  refine hK6 _ _ ?_
  clear hK6 K6
  refine wp_seq_k (fun K8 hK8 => ?_)
  refine wp_seq_k (fun K9 hK9 => ?_)
  refine e_region (fun R hR => ?_)
  refine e_op H rfl rfl (by decide) (x_load H rfl rfl (l_part (cs := plCells comp first (.slice pa len pc)) isAgg80 size80 (fun j v hv => by rw [B4.cell, Nat.zero_add]; exact hv))) ?_
  clear H a; intro a H
  refine e_callq H rfl rfl (by decide) rfl rfl (Try.call67 _) (goodP_any comp first pa len pc ss w4 (hr.ext E4) hc hf hlen) ?_
  clear H a
  rintro e w5 ⟨vq, qs, rfl, RL, hqs, F5⟩
  refine ⟨_, rfl, fun a H => ?_⟩
  have E5 := E4.tr F5
  replace RL := RL.mono E4.sz
  replace Rr := Rr.ext F5
  replace Rs := Rs.ext F5
  obtain ⟨qa, qc, rfl, _⟩ := RL.row.shape
  obtain ⟨hs, hhs⟩ : ∃ n, n = w5.heap.size := ⟨_, rfl⟩
  have hqold : ∀ k, (Value.slice qa qs.length qc).ownBlock = some k → k < hs := fun k hk => by have := (RL.row.blk k hk).2.1; omega
  have hql : qs.length ≤ 40 := by have := congrArg List.length hqs; rw [List.length_map] at this; rw [this]; exact good_len _ _ _
  refine e_op H rfl rfl (by decide) (x_builtin H rfl rfl (fun cs => len_sl under84)) ?_
  clear H a; intro a H
  refine e_op H rfl rfl (by decide) (x_move H rfl rfl) ?_
  clear H a; intro a H
  refine e_nil (hR.out _ _ ?_)
  clear hR R
  refine hK9 _ _ ?_
  clear hK9 K9
  refine wp_block ?_
  refine wp_loop_ghost (fun n a w => ∃ i vr psr r vs pss s d1 d2, i ≤ qs.length ∧ n = qs.length - i ∧ Has a 81 [(7, .pointer (some ⟨gr, 0, none⟩)), (9, .pointer (some ⟨gs, 0, none⟩)), (56, .slice qa qs.length qc), (57, .int .i64 ((qs.length : Nat) : Int)), (58, .int .i64 (i : Int))] ∧ Rn w w0.heap.size gr vr psr r ∧ Rn w w0.heap.size gs vs pss s ∧ Rl w w0.heap.size (.slice qa qs.length qc) qs ∧ ((∀ k, vr.ownBlock = some k → hs ≤ k) ∧ (∀ k, vs.ownBlock = some k → hs ≤ k) ∧ (∀ k, vr.ownBlock = some k → vs.ownBlock ≠ some k)) ∧ Fed first ((comp % 8 : Nat) : Int) ((goodOf comp first ss).take i) d1 r ∧ Fed first ((comp % 8 : Nat) : Int) ((goodOf comp first ss).take i) d2 s ∧ r.cap ≤ s.cap ∧ d2 ≤ d1 ∧ hs ≤ w.heap.size ∧ Ext w0 w) (qs.length) ?_ ?_
  · skip
    exact ⟨0, .slice none 0 0, [], _, .slice none 0 0, [], _, 0, 0, by omega, rfl, H.sub ⟨rfl, rfl, rfl, rfl, rfl, trivial⟩, Rr, Rs, RL, ⟨(fun k hk => by cases hk), (fun k hk => by cases hk), fun k hk => by cases hk⟩, fed_nil _ _ _ (by omega), fed_nil _ _ _ (by omega), by simp only; omega, Nat.le_refl _, by omega, E5⟩
  · skip
    clear H Rr Rs RL E5
    intro n a w hI
    obtain ⟨i, vr, psr, r, vs, pss, s, d1, d2, hi, rfl, H, Rr, Rs, RL, hsep, Fr, Fs, hcap, hd, hhw, E⟩ := hI
    rcases (show i < qs.length ∨ i = qs.length by omega) with hlt | rfl
    · skip
      obtain ⟨⟨y, uy⟩, hp⟩ : ∃ p, qs[i]? = some p := ⟨_, List.getElem?_eq_getElem hlt⟩
      obtain ⟨gq, oq, hqa, hcl, hok, hzp, _⟩ := RL.at_ i (y, uy) hp
      subst hqa
      have hld := ld_elem RL i (y, uy) hp
      simp only at hok hzp hld
      obtain ⟨ua, uc, rfl, _⟩ := (Sr.of hzp.1).shape
      have hLi : (goodOf comp first ss)[i]? = some y := by rw [← hqs, List.getElem?_map, hp]; rfl
      obtain ⟨hfy, m, hm, hxi, hmb⟩ := good_row comp first ss hf hss i y hLi
      have hw3n : y.what ≠ 3 := by rcases hfy.what with h | h <;> omega
      have htk : (goodOf comp first ss).take (i + 1) = (goodOf comp first ss).take i ++ [y] := by rw [List.take_add_one, hLi]; rfl
      obtain ⟨hcr, Fr'⟩ := fed_put Fr hfy hm hxi (by omega)
      obtain ⟨hcs, Fs'⟩ := fed_put Fs hfy hm hxi (by omega)
      have hwide := fed_wide (x := y) Fr Fs hcap hd
      have hpr : psr.length ≤ 1000000 := by have := congrArg List.length Rr.eq; rw [List.length_map, Fr.list, List.length_drop, List.length_take] at this; omega
      have hps : pss.length ≤ 1000000 := by have := congrArg List.length Rs.eq; rw [List.length_map, Fs.list, List.length_drop, List.length_take] at this; omega
      obtain ⟨sep1, sep2, sep3⟩ := hsep
      refine wp_seq_k (fun K10 hK10 => ?_)
      refine e_region (fun R hR => ?_)
      refine e_op H rfl rfl (by decide) (x_binI H rfl rfl rfl (b_lss (b := true) (dec_t (by omega)))) ?_
      clear H a; intro a H
      refine e_nil (hR.out _ _ ?_)
      clear hR R
      refine hK10 _ _ ?_
      clear hK10 K10
      refine wp_seq_k (fun K11 hK11 => ?_)
      refine c_true H rfl ?_
      refine wp_skip ?_
      refine hK11 _ _ ?_
      clear hK11 K11
      refine wp_seq_k (fun K12 hK12 => ?_)
      refine wp_block ?_
      refine wp_seq_k (fun K13 hK13 => ?_)
      refine e_region (fun R hR => ?_)
      refine e_op H rfl rfl (by decide) (x_indexAddr H rfl rfl rfl (i_slN (m := i) under84 size95 rfl hlt)) ?_
      clear H a; intro a H
      refine e_op H rfl rfl (by decide) (x_load H rfl rfl hld) ?_
      clear H a; intro a H
      refine e_op H rfl rfl (by decide) (x_alloc H rfl (al_new (z95 _))) ?_
      clear H a; intro a H
      refine e_st H rfl rfl (x_store H rfl rfl rfl (st_row (Blk.new w 95 zero95) (by rw [info95]; simp [Rcd.cells_len _ _ hok.words]) (by simp [Rcd.cells_len _ _ hok.words, zero95]) (by rw [Array.all_eq_true']; intro z hz; exact cells_one y ua y.ev.args.length uc z (by simpa using hz)))) ?_
      obtain ⟨T, Ex⟩ := copy_rec w y (.slice ua y.ev.args.length uc) hok.words
      obtain ⟨gx, hgx⟩ : ∃ g, g = w.heap.size := ⟨_, rfl⟩
      rw [← hgx] at H T Ex
      rw [← hgx]
      generalize (w.alloc (.cells zero95.toArray 95)).setRow gx (y.cells (.slice ua y.ev.args.length uc)).toArray = wa at *
      have hgxw : gx = w.heap.size := hgx
      have lr := Rr.blk.lt
      have ls := Rs.blk.lt
      have lvr : ∀ k, vr.ownBlock = some k → k < w.heap.size := fun k hk => (Rr.lst.row.blk k hk).2.1
      have lvs : ∀ k, vs.ownBlock = some k → k < w.heap.size := fun k hk => (Rs.lst.row.blk k hk).2.1
      replace Rr := Rr.ext Ex
      replace Rs := Rs.ext Ex
      replace RL := RL.ext Ex
      replace hzp := hzp.ext Ex
      replace E := E.tr Ex
      have hwa := Ex.sz
      refine e_nil (hR.out _ _ ?_)
      clear hR R
      refine hK13 _ _ ?_
      clear hK13 K13
      refine wp_seq_k (fun K14 hK14 => ?_)
      refine e_region (fun R hR => ?_)
      refine e_op H rfl rfl (by decide) (x_move H rfl rfl) ?_
      clear H a; intro a H
      refine e_op H rfl rfl (by decide) (x_load H rfl rfl (ld_rec T hok.words)) ?_
      clear H a; intro a H
      refine e_callq H rfl rfl (by decide) rfl rfl (Try.call68 _) (put_ok w0.heap.size gr vr psr r y wa Rr hok ua y.ev.args.length uc (hzp.mono (Nat.zero_le _)) hfy.good hw3n (fed_beg Fr hfy hm hxi) hpr E.sz) ?_
      clear H a
      rintro e wb ⟨vr2, psr2, rfl, Rr2, FF, hown⟩
      refine ⟨_, rfl, fun a H => ?_⟩
      rw [(put_of hcr).1] at Rr2
      have hap := Rr.apart Rs hrs (fun k hk e => sep3 k e hk)
      replace Rs := Rs.frm FF hap.1 hap.2 Rr.no2
      replace RL := RL.frm FF (Rl.apart Rr RL (fun k hk e => by have := hqold k hk; have := sep1 k e; omega)) Rr.no2
      replace T := T.frm FF (by
        intro h
        rcases List.mem_cons.1 h with h | h
        · omega
        · have := lvr gx (by simpa using h); omega)
      replace hzp := hzp.frm FF Rr.no2
      replace E := putExt E Rr FF
      have hwb := FF.size
      clear FF Rr hap
      refine e_nil (hR.out _ _ ?_)
      clear hR R
      refine hK14 _ _ ?_
      clear hK14 K14
      refine wp_seq_k (fun K15 hK15 => ?_)
      refine e_region (fun R hR => ?_)
      refine e_op H rfl rfl (by decide) (x_move H rfl rfl) ?_
      clear H a; intro a H
      refine e_op H rfl rfl (by decide) (x_load H rfl rfl (ld_rec T hok.words)) ?_
      clear H a; intro a H
      refine e_callq H rfl rfl (by decide) rfl rfl (Try.call68 _) (put_ok w0.heap.size gs vs pss s y wb Rs hok ua y.ev.args.length uc (hzp.mono (Nat.zero_le _)) hfy.good hw3n (fed_beg Fs hfy hm hxi) hps E.sz) ?_
      clear H a
      rintro e wc ⟨vs2, pss2, rfl, Rs2, FF, hown2⟩
      refine ⟨_, rfl, fun a H => ?_⟩
      have hnew : ∀ k, vr2.ownBlock = some k → k < wb.heap.size := fun k hk => (Rr2.lst.row.blk k hk).2.1
      rw [(put_of hcs).1] at Rs2
      have hap := Rs.apart Rr2 hrs.symm (fun k hk e => by
        rcases hown with h | h | ⟨b, h, hb⟩
        · rw [h] at hk; cases hk
        · rw [h] at hk; exact sep3 k hk e
        · rw [h] at hk; cases hk; have := lvs k e; omega)
      replace Rr2 := Rr2.frm FF hap.1 hap.2 Rs.no2
      replace RL := RL.frm FF (Rl.apart Rs RL (fun k hk e => by have := hqold k hk; have := sep2 k e; omega)) Rs.no2
      replace E := putExt E Rs FF
      have hwc := FF.size
      clear FF Rs hap T hzp
      obtain ⟨hlost, hlens⟩ := fed_wide_lost Fr' Fs' hwide (by omega)
      refine e_nil (hR.out _ _ ?_)
      clear hR R
      refine hK15 _ _ ?_
      clear hK15 K15
      refine wp_seq_k (fun K16 hK16 => ?_)
      refine e_region (fun R hR => ?_)
      refine e_op H rfl rfl (by decide) (x_move H rfl rfl) ?_
      clear H a; intro a H
      refine e_callq H rfl rfl (by decide) rfl rfl (Try.call87 _) (rlen_any Rr2) ?_
      clear H a
      rintro e w9 ⟨rfl, rfl⟩
      refine ⟨_, rfl, fun a H => ?_⟩
      refine e_op H rfl rfl (by decide) (x_move H rfl rfl) ?_
      clear H a; intro a H
      refine e_callq H rfl rfl (by decide) rfl rfl (Try.call87 _) (rlen_any Rs2) ?_
      clear H a
      rintro e w9 ⟨rfl, rfl⟩
      refine ⟨_, rfl, fun a H => ?_⟩
      refine e_op H rfl rfl (by decide) (x_binI H rfl rfl rfl (b_gtr (b := false) (dec_f (by omega)))) ?_
      clear H a; intro a H
      refine e_op H rfl rfl (by decide) (x_move H rfl rfl) ?_
      clear H a; intro a H
      refine e_opg H (wanted_true H rfl rfl rfl rfl) rfl (by decide) (x_move H rfl rfl) ?_
      clear H a; intro a H
      refine e_callqg H (wanted_true H rfl rfl rfl rfl) rfl (by decide) rfl rfl (Try.call88 _) (lost_any w0.heap.size gr vr2 psr2 _ _ Rr2) ?_
      clear H a
      rintro e wd ⟨rfl, Fd⟩
      refine ⟨_, rfl, fun a H => ?_⟩
      replace Rr2 := Rr2.ext Fd
      replace Rs2 := Rs2.ext Fd
      replace RL := RL.ext Fd
      replace E := E.tr Fd
      have hwd := Fd.sz
      clear Fd
      refine e_opg H (wanted_true H rfl rfl rfl rfl) rfl (by decide) (x_move H rfl rfl) ?_
      clear H a; intro a H
      refine e_callqg H (wanted_true H rfl rfl rfl rfl) rfl (by decide) rfl rfl (Try.call88 _) (lost_any w0.heap.size gs vs2 pss2 _ _ Rs2) ?_
      clear H a
      rintro e we ⟨rfl, Fd⟩
      refine ⟨_, rfl, fun a H => ?_⟩
      replace Rr2 := Rr2.ext Fd
      replace Rs2 := Rs2.ext Fd
      replace RL := RL.ext Fd
      replace E := E.tr Fd
      have hwe := Fd.sz
      clear Fd
      refine e_opg H (wanted_true H rfl rfl rfl rfl) rfl (by decide) (x_binI H rfl rfl rfl (b_lss (b := false) (dec_f (by omega)))) ?_
      clear H a; intro a H
      refine e_op H rfl rfl (by decide) (x_pickF H rfl rfl rfl) ?_
      clear H a; intro a H
      refine e_nil (hR.out _ _ ?_)
      clear hR R
      refine hK16 _ _ ?_
      clear hK16 K16
      refine c_false H rfl ?_
      refine wp_skip ?_
      refine hK12 _ _ ?_
      clear hK12 K12
      refine e_region (fun R hR => ?_)
      refine e_op H rfl rfl (by decide) (x_binI H rfl rfl rfl (b_add (z := ((i + 1 : Nat) : Int)) (by rw [IntKind.wrap_i64]; omega))) ?_
      clear H a; intro a H
      refine e_op H rfl rfl (by decide) (x_move H rfl rfl) ?_
      clear H a; intro a H
      refine e_nil (hR.out _ _ ?_)
      clear hR R
      refine ⟨qs.length - (i + 1), by omega, i + 1, vr2, psr2, _, vs2, pss2, _, _, _, by omega, rfl, H.sub ⟨rfl, rfl, rfl, rfl, rfl, trivial⟩, Rr2, Rs2, RL, ⟨?_, ?_, ?_⟩, by rw [htk]; exact Fr', by rw [htk]; exact Fs', hcap, hwide, by omega, E⟩
      · intro k hk
        rcases hown with h | h | ⟨b, h, hb⟩
        · rw [h] at hk; cases hk
        · rw [h] at hk; exact sep1 k hk
        · rw [h] at hk; cases hk; omega
      · intro k hk
        rcases hown2 with h | h | ⟨b, h, hb⟩
        · rw [h] at hk; cases hk
        · rw [h] at hk; exact sep2 k hk
        · rw [h] at hk; cases hk; omega
      · intro k hk e
        rcases hown2 with h | h | ⟨b, h, hb⟩
        · rw [h] at e; cases e
        · rw [h] at e
          rcases hown with h3 | h3 | ⟨b3, h3, hb3⟩
          · rw [h3] at hk; cases hk
          · rw [h3] at hk; exact sep3 k hk e
          · rw [h3] at hk; cases hk; have := lvs k e; omega
        · rw [h] at e
          cases e
          rcases hown with h3 | h3 | ⟨b3, h3, hb3⟩
          · rw [h3] at hk; cases hk
          · rw [h3] at hk; have := lvr k hk; omega
          · have := (Rr2.lst.row.blk k hk).2.1
            have := hnew k hk
            omega
    · skip
      skip
      refine wp_seq_k (fun K17 hK17 => ?_)
      refine e_region (fun R hR => ?_)
      refine e_op H rfl rfl (by decide) (x_binI H rfl rfl rfl (b_lss (b := false) (dec_f (by omega)))) ?_
      clear H a; intro a H
      refine e_nil (hR.out _ _ ?_)
      clear hR R
      refine hK17 _ _ ?_
      clear hK17 K17
      refine wp_seq_k (fun K18 hK18 => ?_)
      refine c_false H rfl ?_
      refine wp_exit ?_
      refine t_exit ?_
      refine t_exit ?_
      refine b_hit ?_
      clear hK18 K18
      refine hK8 _ _ ?_
      clear hK8 K8
      refine wp_seq_k (fun K19 hK19 => ?_)
      refine e_region (fun R hR => ?_)
      refine e_op H rfl rfl (by decide) (x_assign H rfl rfl) ?_
      clear H a; intro a H
      refine e_nil (hR.out _ _ ?_)
      clear hR R
      refine hK19 _ _ ?_
      clear hK19 K19
      refine wp_ret ?_
      exact ret1 H rfl rfl ⟨rfl, E⟩
end Go.Proofs.Ytknllmcpogoeoaa
