/- RingErrs, walked. -/
import Derived.Test.YtknllmcpogoeoaaR19
namespace Go.Proofs.Ytknllmcpogoeoaa
open Go.RowKit
set_option linter.unusedVariables false
set_option linter.unusedSimpArgs false
set_option maxRecDepth 100000
theorem ld_kk {w : World} {Bk gk ok j i : Nat} {ks : List (Rcd × Value)} {p : Rcd × Value} (h : Kk w Bk gk ok ks j) (hi : j ≤ i) (hp : ks[i]? = some p) : (Instr.loadAt 95 (.pointer (some ⟨gk, ok + i * 29, none⟩))).run Try.prog w = .ok (.agg (p.1.cells p.2).toArray) w := by
  obtain ⟨h1, h2, _⟩ := h.cell i p hi hp
  exact l_part isAgg95 (fun w => by rw [Rcd.cells_len _ _ h2.words]; exact size95 w) h1
theorem froz_of {w : World} {g o : Nat} {t : TypeId} (h : ∃ cur, w.heap[g]? = some (.cells cur t (0, 0))) : w.frozen? ⟨g, o, none⟩ = false := by
  obtain ⟨cur, h⟩ := h
  simp [World.frozen?, h]
theorem ringErrs1 (cap : Int) (comp first : Nat) (pa : Option Addr) (len pc : Nat) (ss : List RStep) (x : Rcd) (ua : Option Addr) (un uc : Nat) (w0 : World) (hr : Rt w0 pa len ss) (hc2 : cap ≤ 9223372036854775807) (hc : comp ≤ 255) (hf : first ≤ 4294967295) (hlen : len ≤ 8796093021952) (hx : x.ok) (hu : Zl w0 (.slice ua un uc) x.ev.args) (hcap : 1 ≤ cap) :
    Calls Try.prog 26 #[.int .i64 cap, .agg (plCells comp first (.slice pa len pc)).toArray, .agg (x.cells (.slice ua un uc)).toArray] w0 fun e w' => e = .returned (.bool true) ∧ Ext w0 w' := by
  have hss : ∀ s ∈ ss, s.ok := fun s hs => by
    obtain ⟨k, hk⟩ := List.getElem?_of_mem hs
    exact (hr.cell k s hk).1
  refine calls_has (args := [.int .i64 cap, .agg (plCells comp first (.slice pa len pc)).toArray, .agg (x.cells (.slice ua un uc)).toArray]) Try.func26 rfl Try.ntmps26 (Nat.le_of_ble_eq_true rfl) (fun a H => ?_)
  simp only [argl, Nat.reduceAdd] at H
  refine wp_seq_k (fun K1 hK1 => ?_)
  refine e_region (fun R hR => ?_)
  refine e_op H rfl rfl (by decide) (x_box H rfl rfl bx_new) ?_
  clear H a; intro a H
  have B4 := Blk.new w0 80 (plCells comp first (.slice pa len pc))
  have E0 := (Ext.refl w0).al (.cells (plCells comp first (.slice pa len pc)).toArray 80)
  obtain ⟨g4, hg4⟩ : ∃ g, g = w0.heap.size := ⟨_, rfl⟩
  rw [← hg4] at H B4
  generalize w0.alloc (.cells (plCells comp first (.slice pa len pc)).toArray 80) = wa0 at *
  refine e_op H rfl rfl (by decide) (x_box H rfl rfl bx_new) ?_
  clear H a; intro a H
  have T5 := Blk.new wa0 95 (x.cells (.slice ua un uc))
  replace B4 := B4.alloc (.cells (x.cells (.slice ua un uc)).toArray 95)
  have E1 := E0.al (.cells (x.cells (.slice ua un uc)).toArray 95)
  obtain ⟨g5, hg5⟩ : ∃ g, g = wa0.heap.size := ⟨_, rfl⟩
  rw [← hg5] at H T5
  generalize wa0.alloc (.cells (x.cells (.slice ua un uc)).toArray 95) = w1 at *
  refine e_op H rfl rfl (by decide) (x_assign H rfl rfl) ?_
  clear H a; intro a H
  refine e_nil (hR.out _ _ ?_)
  clear hR R
  refine hK1 _ _ ?_
  clear hK1 K1
  refine wp_seq_k (fun K2 hK2 => ?_)
  refine wp_seq_k (fun K3 hK3 => ?_)
  refine e_region (fun R hR => ?_)
  refine e_callq H rfl rfl (by decide) rfl rfl (Try.call65 _) (rawake_any w1) ?_
  clear H a
  rintro e w2 ⟨rfl, F2⟩
  refine ⟨_, rfl, fun a H => ?_⟩
  have E2 := E1.tr F2
  replace B4 := B4.ext F2
  replace T5 := T5.ext F2
  refine e_op H rfl rfl (by decide) (x_un H rfl rfl (u_not (c := false) (rfl))) ?_
  clear H a; intro a H
  refine e_nil (hR.out _ _ ?_)
  clear hR R
  refine hK3 _ _ ?_
  clear hK3 K3
  refine c_false H rfl ?_
  refine wp_skip ?_
  refine hK2 _ _ ?_
  clear hK2 K2
  refine wp_seq_k (fun K4 hK4 => ?_)
  refine e_region (fun R hR => ?_)
  refine e_op H rfl rfl (by decide) (x_move H rfl rfl) ?_
  clear H a; intro a H
  refine e_callq H rfl rfl (by decide) rfl rfl (Try.call66 _) (newRn cap w2 hcap hc2 w0.heap.size E2.sz) ?_
  clear H a
  rintro e w3 ⟨gr, rfl, Rr, F3, hgr⟩
  refine ⟨_, rfl, fun a H => ?_⟩
  have E3 := E2.tr F3
  have hg5r : g5 ≠ gr := by have := T5.lt; omega
  replace B4 := B4.ext F3
  replace T5 := T5.ext F3
  refine e_op H rfl rfl (by decide) (x_move H rfl rfl) ?_
  clear H a; intro a H
  refine e_op H rfl rfl (by decide) (x_ext0 H rfl rfl) ?_
  clear H a; intro a H
  refine e_op H rfl rfl (by decide) (x_ext1 H rfl rfl) ?_
  clear H a; intro a H
  refine e_op H rfl rfl (by decide) (x_assign H rfl rfl) ?_
  clear H a; intro a H
  refine e_op H rfl rfl (by decide) (x_assign H rfl rfl) ?_
  clear H a; intro a H
  refine e_nil (hR.out _ _ ?_)
  clear hR R
  refine hK4 _ _ ?_
  clear hK4 K4
  refine wp_seq_k (fun K5 hK5 => ?_)
  refine wp_seq_k (fun K6 hK6 => ?_)
  refine e_region (fun R hR => ?_)
  refine e_op H rfl rfl (by decide) (x_move H rfl rfl) ?_
  clear H a; intro a H
  refine e_op H rfl rfl (by decide) (x_binI H rfl rfl rfl (b_eql (b := true) (rfl))) ?_
  clear H a; intro a H
  refine e_op H rfl rfl (by decide) (x_move H rfl rfl) ?_
  clear H a; intro a H
  refine e_op H rfl rfl (by decide) (x_binI H rfl rfl rfl (b_geq (b := true) (dec_t (by omega)))) ?_
  clear H a; intro a H
  refine e_op H rfl rfl (by decide) (x_bin H rfl rfl rfl (by rw [eqGuard_at_bool]; rfl) (b_neqB (c := false) Try.underlying4 rfl)) ?_
  clear H a; intro a H
  refine e_op H rfl rfl (by decide) (x_move H rfl rfl) ?_
  clear H a; intro a H
  refine e_opg H (wanted_true H rfl rfl rfl rfl) rfl (by decide) (x_move H rfl rfl) ?_
  clear H a; intro a H
  refine e_opg H (wanted_true H rfl rfl rfl rfl) rfl (by decide) (x_bin H rfl rfl rfl (by rw [eqGuard_at_pointer]; rfl) (b_npnil (c := true) under81 rfl)) ?_
  clear H a; intro a H
  refine e_opg H (wanted_true H rfl rfl rfl rfl) rfl (by decide) (x_move H rfl rfl) ?_
  clear H a; intro a H
  refine e_opg H (wanted_true H rfl rfl rfl rfl) rfl (by decide) (x_binI H rfl rfl rfl (b_eql (b := true) (rfl))) ?_
  clear H a; intro a H
  refine e_opg H (wanted_true H rfl rfl rfl rfl) rfl (by decide) (x_bin H rfl rfl rfl (by rw [eqGuard_at_bool]; rfl) (b_neqB (c := false) Try.underlying4 rfl)) ?_
  clear H a; intro a H
  refine e_op H rfl rfl (by decide) (x_pickF H rfl rfl rfl) ?_
  clear H a; intro a H
  refine e_op H rfl rfl (by decide) (x_move H rfl rfl) ?_
  clear H a; intro a H
  refine e_opg H (wanted_true H rfl rfl rfl rfl) rfl (by decide) (x_move H rfl rfl) ?_
  clear H a; intro a H
  refine e_opg H (wanted_true H rfl rfl rfl rfl) rfl (by decide) (x_binI H rfl rfl rfl (b_neq (b := false) (rfl))) ?_
  clear H a; intro a H
  refine e_opg H (wanted_true H rfl rfl rfl rfl) rfl (by decide) (x_move H rfl rfl) ?_
  clear H a; intro a H
  refine e_skip H (wanted_false H rfl rfl rfl rfl) rfl (by decide) ?_
  clear H a; intro a H
  refine e_skip H (wanted_false H rfl rfl rfl rfl) rfl (by decide) ?_
  clear H a; intro a H
  refine e_opg H (wanted_true H rfl rfl rfl rfl) rfl (by decide) (x_pickF H rfl rfl rfl) ?_
  clear H a; intro a H
  refine e_op H rfl rfl (by decide) (x_pickF H rfl rfl rfl) ?_
  clear H a; intro a H
  refine e_nil (hR.out _ _ ?_)
  clear hR R
  refine hK6 _ _ ?_
  clear hK6 K6
  refine c_false H rfl ?_
  refine wp_skip ?_
  refine hK5 _ _ ?_
  clear hK5 K5
  refine wp_seq_k (fun K7 hK7 => ?_)
  refine wp_seq_k (fun K8 hK8 => ?_)
  refine e_region (fun R hR => ?_)
  refine e_op H rfl rfl (by decide) (x_load H rfl rfl (l_part (cs := plCells comp first (.slice pa len pc)) isAgg80 size80 (fun j v hv => by rw [B4.cell, Nat.zero_add]; exact hv))) ?_
  clear H a; intro a H
  refine e_callq H rfl rfl (by decide) rfl rfl (Try.call67 _) (goodP_any comp first pa len pc ss w3 (hr.ext E3) hc hf hlen) ?_
  clear H a
  rintro e w5 ⟨vq, qs, rfl, RL, hqs, F5⟩
  refine ⟨_, rfl, fun a H => ?_⟩
  have E5 := E3.tr F5
  replace RL := RL.mono E3.sz
  replace Rr := Rr.ext F5
  replace T5 := T5.ext F5
  obtain ⟨qa, qc, rfl, _⟩ := RL.row.shape
  obtain ⟨hs, hhs⟩ : ∃ n, n = w5.heap.size := ⟨_, rfl⟩
  have hg5s : g5 < hs := by have := T5.lt; omega
  have hqold : ∀ k, (Value.slice qa qs.length qc).ownBlock = some k → k < hs := fun k hk => by have := (RL.row.blk k hk).2.1; omega
  have hQL : qs.length = (goodOf comp first ss).length := by have := congrArg List.length hqs; rwa [List.length_map] at this
  have hql : qs.length ≤ 40 := by rw [hQL]; exact good_len _ _ _
  refine e_op H rfl rfl (by decide) (x_builtin H rfl rfl (fun cs => len_sl under84)) ?_
  clear H a; intro a H
  refine e_op H rfl rfl (by decide) (x_move H rfl rfl) ?_
  clear H a; intro a H
  refine e_nil (hR.out _ _ ?_)
  clear hR R
  refine hK8 _ _ ?_
  clear hK8 K8
  refine wp_block ?_
  refine wp_loop_ghost (fun n a w => ∃ i vr psr r d, i ≤ qs.length ∧ n = qs.length - i ∧ Has a 181 [(5, .pointer (some ⟨g5, 0, none⟩)), (7, .pointer (some ⟨gr, 0, none⟩)), (49, .slice qa qs.length qc), (50, .int .i64 ((qs.length : Nat) : Int)), (51, .int .i64 (i : Int))] ∧ Blk w g5 95 (x.cells (.slice ua un uc)) ∧ Rl w w0.heap.size (.slice qa qs.length qc) qs ∧ Rn w w0.heap.size gr vr psr r ∧ (∀ k, vr.ownBlock = some k → hs ≤ k) ∧ Fed first ((comp % 8 : Nat) : Int) ((goodOf comp first ss).take i) d r ∧ hs ≤ w.heap.size ∧ Ext w0 w) (qs.length) ?_ ?_
  · skip
    exact ⟨0, .slice none 0 0, [], _, 0, by omega, rfl, H.sub ⟨rfl, rfl, rfl, rfl, rfl, trivial⟩, T5, RL, Rr, (fun k hk => by cases hk), fed_nil _ _ _ (by omega), by omega, E5⟩
  · skip
    clear H Rr RL E5 T5
    intro n a w hI
    obtain ⟨i, vr, psr, r, d, hi, rfl, H, T5, RL, Rr, sep1, Fr, hhw, E⟩ := hI
    rcases (show i < qs.length ∨ i = qs.length by omega) with hlt | hie
    · skip
      obtain ⟨⟨y, uy⟩, hp⟩ : ∃ p, qs[i]? = some p := ⟨_, List.getElem?_eq_getElem hlt⟩
      obtain ⟨gq, oq, hqa, hcl, hok, hzp, _⟩ := RL.at_ i (y, uy) hp
      subst hqa
      have hld := ld_elem RL i (y, uy) hp
      simp only at hok hzp hld
      obtain ⟨ua2, uc2, rfl, _⟩ := (Sr.of hzp.1).shape
      have hLi : (goodOf comp first ss)[i]? = some y := by rw [← hqs, List.getElem?_map, hp]; rfl
      obtain ⟨hfy, m, hm, hxi, hmb⟩ := good_row comp first ss hf hss i y hLi
      have hw3n : y.what ≠ 3 := by rcases hfy.what with h | h <;> omega
      have htk : (goodOf comp first ss).take (i + 1) = (goodOf comp first ss).take i ++ [y] := by rw [List.take_add_one, hLi]; rfl
      obtain ⟨hcr, Fr'⟩ := fed_put Fr hfy hm hxi (by omega)
      have hpr : psr.length ≤ 1000000 := by have := congrArg List.length Rr.eq; rw [List.length_map, Fr.list, List.length_drop, List.length_take] at this; omega
      refine wp_seq_k (fun K9 hK9 => ?_)
      refine e_region (fun R hR => ?_)
      refine e_op H rfl rfl (by decide) (x_binI H rfl rfl rfl (b_lss (b := true) (dec_t (by omega)))) ?_
      clear H a; intro a H
      refine e_nil (hR.out _ _ ?_)
      clear hR R
      refine hK9 _ _ ?_
      clear hK9 K9
      refine wp_seq_k (fun K10 hK10 => ?_)
      refine c_true H rfl ?_
      refine wp_skip ?_
      refine hK10 _ _ ?_
      clear hK10 K10
      refine wp_seq_k (fun K11 hK11 => ?_)
      refine wp_block ?_
      refine wp_seq_k (fun K12 hK12 => ?_)
      refine e_region (fun R hR => ?_)
      refine e_op H rfl rfl (by decide) (x_indexAddr H rfl rfl rfl (i_slN (m := i) under84 size95 rfl hlt)) ?_
      clear H a; intro a H
      refine e_op H rfl rfl (by decide) (x_load H rfl rfl hld) ?_
      clear H a; intro a H
      refine e_op H rfl rfl (by decide) (x_alloc H rfl (al_new (z95 _))) ?_
      clear H a; intro a H
      refine e_st H rfl rfl (x_store H rfl rfl rfl (st_row (Blk.new w 95 zero95) (by rw [info95]; simp [Rcd.cells_len _ _ hok.words]) (by simp [Rcd.cells_len _ _ hok.words, zero95]) (by rw [Array.all_eq_true']; intro z hz; exact cells_one y ua2 y.ev.args.length uc2 z (by simpa using hz)))) ?_
      obtain ⟨T, Ex⟩ := copy_rec w y (.slice ua2 y.ev.args.length uc2) hok.words
      obtain ⟨gx, hgx⟩ : ∃ g, g = w.heap.size := ⟨_, rfl⟩
      rw [← hgx] at H T Ex
      rw [← hgx]
      generalize (w.alloc (.cells zero95.toArray 95)).setRow gx (y.cells (.slice ua2 y.ev.args.length uc2)).toArray = wa at *
      have lvr : ∀ k, vr.ownBlock = some k → k < w.heap.size := fun k hk => (Rr.lst.row.blk k hk).2.1
      replace Rr := Rr.ext Ex
      replace RL := RL.ext Ex
      replace T5 := T5.ext Ex
      replace hzp := hzp.ext Ex
      replace E := E.tr Ex
      have hwa := Ex.sz
      refine e_nil (hR.out _ _ ?_)
      clear hR R
      refine hK12 _ _ ?_
      clear hK12 K12
      refine wp_seq_k (fun K13 hK13 => ?_)
      refine e_region (fun R hR => ?_)
      refine e_op H rfl rfl (by decide) (x_move H rfl rfl) ?_
      clear H a; intro a H
      refine e_op H rfl rfl (by decide) (x_load H rfl rfl (ld_rec T hok.words)) ?_
      clear H a; intro a H
      refine e_callq H rfl rfl (by decide) rfl rfl (Try.call68 _) (put_ok w0.heap.size gr vr psr r y wa Rr hok ua2 y.ev.args.length uc2 (hzp.mono (Nat.zero_le _)) hfy.good hw3n (fed_beg Fr hfy hm hxi) hpr E.sz) ?_
      clear H a
      rintro e wb ⟨vr2, psr2, rfl, Rr2, FF, hown⟩
      refine ⟨_, rfl, fun a H => ?_⟩
      rw [(put_of hcr).1] at Rr2
      rw [(put_of hcr).2] at H
      dsimp only at H
      replace RL := RL.frm FF (Rl.apart Rr RL (fun k hk e => by have := hqold k hk; have := sep1 k e; omega)) Rr.no2
      replace T5 := T5.frm FF (by
        intro h
        rcases List.mem_cons.1 h with h | h
        · exact hg5r h
        · have := sep1 g5 (by simpa using h); omega)
      replace E := putExt E Rr FF
      have hwb := FF.size
      clear FF Rr T hzp
      refine e_op H rfl rfl (by decide) (x_move H rfl rfl) ?_
      clear H a; intro a H
      refine e_op H rfl rfl (by decide) (x_ext0 H rfl rfl) ?_
      clear H a; intro a H
      refine e_op H rfl rfl (by decide) (x_ext1 H rfl rfl) ?_
      clear H a; intro a H
      refine e_op H rfl rfl (by decide) (x_assign H rfl rfl) ?_
      clear H a; intro a H
      refine e_op H rfl rfl (by decide) (x_assign H rfl rfl) ?_
      clear H a; intro a H
      refine e_nil (hR.out _ _ ?_)
      clear hR R
      refine hK13 _ _ ?_
      clear hK13 K13
      refine wp_seq_k (fun K14 hK14 => ?_)
      refine e_region (fun R hR => ?_)
      refine e_op H rfl rfl (by decide) (x_move H rfl rfl) ?_
      clear H a; intro a H
      refine e_op H rfl rfl (by decide) (x_binI H rfl rfl rfl (b_eql (b := true) (rfl))) ?_
      clear H a; intro a H
      refine e_op H rfl rfl (by decide) (x_move H rfl rfl) ?_
      clear H a; intro a H
      refine e_op H rfl rfl (by decide) (x_bin H rfl rfl rfl (by rw [eqGuard_at_pointer]; rfl) (b_npnil (c := true) under81 rfl)) ?_
      clear H a; intro a H
      refine e_op H rfl rfl (by decide) (x_bin H rfl rfl rfl (by rw [eqGuard_at_bool]; rfl) (b_neqB (c := false) Try.underlying4 rfl)) ?_
      clear H a; intro a H
      refine e_nil (hR.out _ _ ?_)
      clear hR R
      refine hK14 _ _ ?_
      clear hK14 K14
      refine c_false H rfl ?_
      refine wp_skip ?_
      refine hK11 _ _ ?_
      clear hK11 K11
      refine e_region (fun R hR => ?_)
      refine e_op H rfl rfl (by decide) (x_binI H rfl rfl rfl (b_add (z := ((i + 1 : Nat) : Int)) (by rw [IntKind.wrap_i64]; omega))) ?_
      clear H a; intro a H
      refine e_op H rfl rfl (by decide) (x_move H rfl rfl) ?_
      clear H a; intro a H
      refine e_nil (hR.out _ _ ?_)
      clear hR R
      refine ⟨qs.length - (i + 1), by omega, i + 1, vr2, psr2, _, _, by omega, rfl, H.sub ⟨rfl, rfl, rfl, rfl, rfl, trivial⟩, T5, RL, Rr2, ?_, by rw [htk]; exact Fr', by omega, E⟩
      intro k hk
      rcases hown with h | h | ⟨b, h, hb⟩
      · rw [h] at hk; cases hk
      · rw [h] at hk; exact sep1 k hk
      · rw [h] at hk; cases hk; omega
    · skip
      have hpn : psr.length ≤ 1000000 := by have := congrArg List.length Rr.eq; rw [List.length_map, Fr.list, List.length_drop, List.length_take] at this; omega
      have hrll : r.list.length ≤ 40 := by rw [Fr.list, List.length_drop, List.length_take]; omega
      refine wp_seq_k (fun K15 hK15 => ?_)
      refine e_region (fun R hR => ?_)
      refine e_op H rfl rfl (by decide) (x_binI H rfl rfl rfl (b_lss (b := false) (dec_f (by omega)))) ?_
      clear H a; intro a H
      refine e_nil (hR.out _ _ ?_)
      clear hR R
      refine hK15 _ _ ?_
      clear hK15 K15
      refine wp_seq_k (fun K16 hK16 => ?_)
      refine c_false H rfl ?_
      refine wp_exit ?_
      refine t_exit ?_
      refine t_exit ?_
      refine b_hit ?_
      clear hK16 K16
      refine hK7 _ _ ?_
      clear hK7 K7
      refine wp_seq_k (fun K17 hK17 => ?_)
      refine e_region (fun R hR => ?_)
      refine e_op H rfl rfl (by decide) (x_move H rfl rfl) ?_
      clear H a; intro a H
      refine e_callq H rfl rfl (by decide) rfl rfl (Try.call69 _) (records_sep w0.heap.size gr vr psr r w Rr hpn) ?_
      clear H a
      rintro e wb ⟨vw, ws, rfl, RW, hws, Fb, _⟩
      refine ⟨_, rfl, fun a H => ?_⟩
      replace RW := RW.mono E.sz
      replace Rr := Rr.ext Fb
      replace T5 := T5.ext Fb
      replace E := E.tr Fb
      obtain ⟨wsa, wsc, rfl, _⟩ := RW.row.shape
      have hwl : ws.length = r.records.length := by rw [← hws, List.length_map]
      have hwb : ws.length ≤ 41 := by rw [hwl, recs_eq, List.length_append]; unfold recs0; split <;> simp <;> omega
      refine e_op H rfl rfl (by decide) (x_assign H rfl rfl) ?_
      clear H a; intro a H
      refine e_nil (hR.out _ _ ?_)
      clear hR R
      refine hK17 _ _ ?_
      clear hK17 K17
      refine wp_seq_k (fun K18 hK18 => ?_)
      refine e_region (fun R hR => ?_)
      refine e_op H rfl rfl (by decide) (x_move H rfl rfl) ?_
      clear H a; intro a H
      refine e_op H rfl rfl (by decide) (x_build H rfl rfl (bldend _)) ?_
      clear H a; intro a H
      refine e_callq H rfl rfl (by decide) rfl rfl (Try.call68 _) (put_end w0.heap.size gr vr psr r endR wb Rr endR_ok none 0 0 (zl_nil _) endR_good rfl) ?_
      clear H a
      rintro e wc ⟨rfl, Fc⟩
      refine ⟨_, rfl, fun a H => ?_⟩
      replace RW := RW.ext Fc
      replace Rr := Rr.ext Fc
      replace T5 := T5.ext Fc
      replace E := E.tr Fc
      refine e_op H rfl rfl (by decide) (x_move H rfl rfl) ?_
      clear H a; intro a H
      refine e_op H rfl rfl (by decide) (x_ext0 H rfl rfl) ?_
      clear H a; intro a H
      refine e_op H rfl rfl (by decide) (x_ext1 H rfl rfl) ?_
      clear H a; intro a H
      refine e_op H rfl rfl (by decide) (x_assign H rfl rfl) ?_
      clear H a; intro a H
      refine e_op H rfl rfl (by decide) (x_assign H rfl rfl) ?_
      clear H a; intro a H
      refine e_nil (hR.out _ _ ?_)
      clear hR R
      refine hK18 _ _ ?_
      clear hK18 K18
      refine wp_seq_k (fun K19 hK19 => ?_)
      refine e_region (fun R hR => ?_)
      refine e_op H rfl rfl (by decide) (x_assign H rfl rfl) ?_
      clear H a; intro a H
      refine e_nil (hR.out _ _ ?_)
      clear hR R
      refine hK19 _ _ ?_
      clear hK19 K19
      refine wp_seq_k (fun K20 hK20 => ?_)
      refine wp_seq_k (fun K21 hK21 => ?_)
      refine e_region (fun R hR => ?_)
      refine e_op H rfl rfl (by decide) (x_load H rfl rfl (ld_rec T5 hx.words)) ?_
      clear H a; intro a H
      refine e_callq H rfl rfl (by decide) rfl rfl (Try.call90 _) (check_any x (.slice ua un uc) wc hx (hu.ext E)) ?_
      clear H a
      rintro e wd ⟨rfl, Fd⟩
      refine ⟨_, rfl, fun a H => ?_⟩
      replace RW := RW.ext Fd
      replace Rr := Rr.ext Fd
      replace T5 := T5.ext Fd
      replace E := E.tr Fd
      refine e_op H rfl rfl (by decide) (x_binI H rfl rfl rfl (b_neq (b := (!x.good)) (by cases x.good <;> rfl))) ?_
      clear H a; intro a H
      refine e_nil (hR.out _ _ ?_)
      clear hR R
      refine hK21 _ _ ?_
      clear hK21 K21
      refine Code.wp_mono (Q := fun e a w => e = Exit.normal ∧ Has a 181 [(7, .pointer (some ⟨gr, 0, none⟩)), (13, .slice wsa ws.length wsc), (15, .int .i64 1)] ∧ Rn w w0.heap.size gr vr psr r ∧ Rl w w0.heap.size (.slice wsa ws.length wsc) ws ∧ Ext w0 w) (fun e a w hM => ?_) ?_
      · skip
        clear H E T5 Rr RW
        obtain ⟨rfl, H, Rr, RW, E⟩ := hM
        refine hK20 _ _ ?_
        clear hK20 K20
        refine wp_seq_k (fun K22 hK22 => ?_)
        refine e_region (fun R hR => ?_)
        refine e_op H rfl rfl (by decide) (x_move H rfl rfl) ?_
        clear H a; intro a H
        refine e_callq H rfl rfl (by decide) rfl rfl (Try.call69 _) (records_sep w0.heap.size gr vr psr r w Rr hpn) ?_
        clear H a
        rintro e wb ⟨vk, ks, rfl, RK, hks, Fb, hpw⟩
        refine ⟨_, rfl, fun a H => ?_⟩
        obtain ⟨wk0, hwk0⟩ : ∃ x, x = w := ⟨_, rfl⟩
        rw [← hwk0] at RK Fb
        have Ek : Ext w0 wk0 := by rw [hwk0]; exact E
        rw [← hwk0] at RW Rr
        clear E hwk0
        obtain ⟨ka, kc, rfl, _⟩ := RK.row.shape
        have hkl : ks.length = ws.length := by rw [hwl, ← hks, List.length_map]
        refine e_op H rfl rfl (by decide) (x_assign H rfl rfl) ?_
        clear H a; intro a H
        refine e_nil (hR.out _ _ ?_)
        clear hR R
        refine hK22 _ _ ?_
        clear hK22 K22
        refine wp_seq_k (fun K23 hK23 => ?_)
        refine wp_seq_k (fun K24 hK24 => ?_)
        refine e_region (fun R hR => ?_)
        refine e_op H rfl rfl (by decide) (x_move H rfl rfl) ?_
        clear H a; intro a H
        refine e_op H rfl rfl (by decide) (x_binI H rfl rfl rfl (b_neq (b := false) (rfl))) ?_
        clear H a; intro a H
        refine e_op H rfl rfl (by decide) (x_move H rfl rfl) ?_
        clear H a; intro a H
        refine e_opg H (wanted_true H rfl rfl rfl rfl) rfl (by decide) (x_move H rfl rfl) ?_
        clear H a; intro a H
        refine e_opg H (wanted_true H rfl rfl rfl rfl) rfl (by decide) (x_builtin H rfl rfl (fun cs => len_sl under84)) ?_
        clear H a; intro a H
        refine e_opg H (wanted_true H rfl rfl rfl rfl) rfl (by decide) (x_move H rfl rfl) ?_
        clear H a; intro a H
        refine e_opg H (wanted_true H rfl rfl rfl rfl) rfl (by decide) (x_builtin H rfl rfl (fun cs => len_sl under84)) ?_
        clear H a; intro a H
        refine e_opg H (wanted_true H rfl rfl rfl rfl) rfl (by decide) (x_binI H rfl rfl rfl (b_neq (b := false) (bne_f (by omega)))) ?_
        clear H a; intro a H
        refine e_op H rfl rfl (by decide) (x_pickF H rfl rfl rfl) ?_
        clear H a; intro a H
        refine e_nil (hR.out _ _ ?_)
        clear hR R
        refine hK24 _ _ ?_
        clear hK24 K24
        refine c_false H rfl ?_
        refine wp_skip ?_
        refine hK23 _ _ ?_
        clear hK23 K23
        refine wp_seq_k (fun K25 hK25 => ?_)
        refine wp_seq_k (fun K26 hK26 => ?_)
        refine e_region (fun R hR => ?_)
        refine e_op H rfl rfl (by decide) (x_move H rfl rfl) ?_
        clear H a; intro a H
        refine e_op H rfl rfl (by decide) (x_builtin H rfl rfl (fun cs => len_sl under84)) ?_
        clear H a; intro a H
        refine e_op H rfl rfl (by decide) (x_move H rfl rfl) ?_
        clear H a; intro a H
        refine e_nil (hR.out _ _ ?_)
        clear hR R
        refine hK26 _ _ ?_
        clear hK26 K26
        refine wp_block ?_
        refine wp_loop_ghost (fun n a w => ∃ j, j ≤ ws.length ∧ n = ws.length - j ∧ Has a 181 [(7, .pointer (some ⟨gr, 0, none⟩)), (13, .slice wsa ws.length wsc), (17, .slice ka ks.length kc), (98, .int .i64 ((ws.length : Nat) : Int)), (99, .int .i64 (j : Int))] ∧ Ext wk0 w ∧ (j < ws.length → ∃ gk ok, ka = some ⟨gk, ok, none⟩ ∧ Kk w wk0.heap.size gk ok ks j)) (ws.length) ?_ ?_
        · skip
          refine ⟨0, by omega, rfl, H.sub ⟨rfl, rfl, rfl, rfl, rfl, trivial⟩, Fb, fun h => ?_⟩
          obtain ⟨p0, hp0⟩ : ∃ p, ks[0]? = some p := ⟨_, List.getElem?_eq_getElem (by omega)⟩
          obtain ⟨gk, ok, hka, _⟩ := RK.at_ 0 p0 hp0
          subst hka
          exact ⟨gk, ok, rfl, Kk.of RK⟩
        · skip
          clear H Fb RK
          intro n a w hI
          obtain ⟨j, hj, rfl, H, Ew, hKK⟩ := hI
          rcases (show j < ws.length ∨ j = ws.length by omega) with hlt | hje
          · skip
            obtain ⟨gk, ok, hka, KK⟩ := hKK hlt
            subst hka
            obtain ⟨⟨y, uy⟩, hp⟩ : ∃ p, ks[j]? = some p := ⟨_, List.getElem?_eq_getElem (by omega)⟩
            obtain ⟨⟨z, uz⟩, hp2⟩ : ∃ p, ws[j]? = some p := ⟨_, List.getElem?_eq_getElem hlt⟩
            have hyz : y = z := by
              have h1 : (ks.map (·.1))[j]? = some y := by rw [List.getElem?_map, hp]; rfl
              have h2 : (ws.map (·.1))[j]? = some z := by rw [List.getElem?_map, hp2]; rfl
              rw [hks] at h1
              rw [hws, h1] at h2
              exact Option.some.inj h2
            subst hyz
            have RWw := RW.ext Ew
            obtain ⟨gw, ow, hwa2, _, _, hzw, _⟩ := RWw.at_ j (y, uz) hp2
            subst hwa2
            obtain ⟨hck, hok, hzk⟩ := KK.cell j (y, uy) (Nat.le_refl _) hp
            simp only at hck hok hzk hzw
            obtain ⟨ua2, uc2, rfl, _⟩ := (Sr.of hzk.1).shape
            refine wp_seq_k (fun K27 hK27 => ?_)
            refine e_region (fun R hR => ?_)
            refine e_op H rfl rfl (by decide) (x_binI H rfl rfl rfl (b_lss (b := true) (dec_t (by omega)))) ?_
            clear H a; intro a H
            refine e_nil (hR.out _ _ ?_)
            clear hR R
            refine hK27 _ _ ?_
            clear hK27 K27
            refine wp_seq_k (fun K28 hK28 => ?_)
            refine c_true H rfl ?_
            refine wp_skip ?_
            refine hK28 _ _ ?_
            clear hK28 K28
            refine wp_seq_k (fun K29 hK29 => ?_)
            refine wp_block ?_
            refine wp_seq_k (fun K30 hK30 => ?_)
            refine e_region (fun R hR => ?_)
            refine e_op H rfl rfl (by decide) (x_move H rfl rfl) ?_
            clear H a; intro a H
            refine e_op H rfl rfl (by decide) (x_assign H rfl rfl) ?_
            clear H a; intro a H
            refine e_nil (hR.out _ _ ?_)
            clear hR R
            refine hK30 _ _ ?_
            clear hK30 K30
            refine wp_seq_k (fun K31 hK31 => ?_)
            refine wp_seq_k (fun K32 hK32 => ?_)
            obtain ⟨wd, hwd⟩ : ∃ wx, wx = w.drew := ⟨_, rfl⟩
            have Ewd : Ext w wd := by rw [hwd]; exact (Ext.refl _).dr
            replace RWw := RWw.ext Ewd
            replace KK := KK.ext Ewd
            replace Ew := Ew.tr Ewd
            have RW0 := RWw
            have KK0 := KK
            have FSq := Ext.refl wd
            replace hzk := hzk.ext Ewd
            replace hzw := hzw.ext Ewd
            refine g_start (fun w' => Ext wd w') (by kernel_rfl) (fun R hR => ?_)
            rw [← hwd]
            refine g_take 0 H rfl (wanted_none rfl) rfl (by decide) (by kernel_rfl) (by kernel_rfl) (by kernel_rfl) FSq (fun w' hSw => (x_move H rfl rfl)) ?_
            clear H a; intro a H
            refine g_take 1 H rfl (wanted_none rfl) rfl (by decide) (by kernel_rfl) (by kernel_rfl) (by kernel_rfl) FSq (fun w' hSw => (x_move H rfl rfl)) ?_
            clear H a; intro a H
            refine g_take 2 H rfl (wanted_none rfl) rfl (by decide) (by kernel_rfl) (by kernel_rfl) (by kernel_rfl) FSq (fun w' hSw => (x_indexAddr H rfl rfl rfl (i_slN (m := j) under84 size95 rfl (by omega)))) ?_
            clear H a; intro a H
            refine g_take 3 H rfl (wanted_none rfl) rfl (by decide) (by kernel_rfl) (by kernel_rfl) (by kernel_rfl) FSq (fun w' hSw => (x_load H rfl rfl (ld_kk (KK0.ext hSw) (Nat.le_refl _) hp))) ?_
            clear H a; intro a H
            refine g_take 4 H rfl (wanted_none rfl) rfl (by decide) (by kernel_rfl) (by kernel_rfl) (by kernel_rfl) FSq (fun w' hSw => (x_move H rfl rfl)) ?_
            clear H a; intro a H
            refine g_take 5 H rfl (wanted_none rfl) rfl (by decide) (by kernel_rfl) (by kernel_rfl) (by kernel_rfl) FSq (fun w' hSw => (x_move H rfl rfl)) ?_
            clear H a; intro a H
            refine g_take 6 H rfl (wanted_none rfl) rfl (by decide) (by kernel_rfl) (by kernel_rfl) (by kernel_rfl) FSq (fun w' hSw => (x_indexAddr H rfl rfl rfl (i_slN (m := j) under84 size95 rfl hlt))) ?_
            clear H a; intro a H
            refine g_take 7 H rfl (wanted_none rfl) rfl (by decide) (by kernel_rfl) (by kernel_rfl) (by kernel_rfl) FSq (fun w' hSw => (x_load H rfl rfl (ld_elem (RW0.ext hSw) j (y, uz) hp2))) ?_
            clear H a; intro a H
            refine g_call 8 H rfl (by kernel_rfl) (wanted_none rfl) rfl (by decide) rfl rfl (Try.call73 _) (requal_any y y _ uz _ hok hok hzk.zl hzw.zl) ?_
            clear H a
            rintro e we ⟨rfl, Ee⟩
            replace KK := KK.ext Ee
            replace Ew := Ew.tr Ee
            replace FSq := FSq.tr Ee
            replace hzk := hzk.ext Ee
            refine ⟨_, rfl, FSq, fun a H => ?_⟩
            rw [rcd_refl] at H
            refine g_take 9 H rfl (wanted_none rfl) rfl (by decide) (by kernel_rfl) (by kernel_rfl) (by kernel_rfl) FSq (fun w' hSw => (x_un H rfl rfl (u_not (c := false) (rfl)))) ?_
            clear H a; intro a H
            refine g_done (by kernel_rfl) (hR.out _ _ ?_)
            clear hR R
            refine hK32 _ _ ?_
            clear hK32 K32
            refine c_false H rfl ?_
            refine wp_skip ?_
            refine hK31 _ _ ?_
            clear hK31 K31
            refine wp_seq_k (fun K33 hK33 => ?_)
            refine e_region (fun R hR => ?_)
            refine e_op H rfl rfl (by decide) (x_move H rfl rfl) ?_
            clear H a; intro a H
            refine e_op H rfl rfl (by decide) (x_move H rfl rfl) ?_
            clear H a; intro a H
            refine e_op H rfl rfl (by decide) (x_indexAddr H rfl rfl rfl (i_slN (m := j) under84 size95 rfl (by omega))) ?_
            clear H a; intro a H
            refine e_op H rfl rfl (by decide) (x_fieldAddr H rfl rfl (fa95o_1 _ _ _)) ?_
            clear H a; intro a H
            refine e_st H rfl rfl (x_store H rfl rfl rfl (st_cell rfl rfl Try.sizeOf56 (froz_of KK.blk) ((by rw [(KK.cell j _ (Nat.le_refl _) hp).1 1 _ rfl]; rfl)))) ?_
            have hu27 : (we.setCell ⟨gk, ok + j * 29 + 1, none⟩ (.int .u64 99)).cell? ⟨gk, ok + j * 29 + 27, none⟩ = some (.slice ua2 y.ev.args.length uc2) := by
              rw [World.cell?_setCell_other _ _ _ _ (by intro e; simp only [Addr.mk.injEq] at e; omega)]
              exact (KK.cell j _ (Nat.le_refl _) hp).1 27 _ (rc_ev hok.words 8 _ rfl)
            obtain ⟨cur, hcur⟩ := KK.blk
            have hzk2 := hzk.frm (s := [gk]) ((Frm.refl [gk] we).st gk (ok + j * 29 + 1) (.int .u64 99) (.inl (by simp))) (fun b hb cur2 e => by
              simp only [List.mem_singleton] at hb
              subst hb
              rw [hcur] at e
              simp at e)
            have KK2 := KK.set1 (.int .u64 99)
            have Ew2 := Ew.st KK.low (ok + j * 29 + 1) (.int .u64 99)
            clear KK Ew hzk FSq KK0 RW0 hck hcur
            generalize we.setCell ⟨gk, ok + j * 29 + 1, none⟩ (.int .u64 99) = wf at *
            refine e_nil (hR.out _ _ ?_)
            clear hR R
            refine hK33 _ _ ?_
            clear hK33 K33
            refine wp_seq_k (fun K34 hK34 => ?_)
            refine e_region (fun R hR => ?_)
            refine e_op H rfl rfl (by decide) (x_move H rfl rfl) ?_
            clear H a; intro a H
            refine e_op H rfl rfl (by decide) (x_move H rfl rfl) ?_
            clear H a; intro a H
            refine e_op H rfl rfl (by decide) (x_indexAddr H rfl rfl rfl (i_slN (m := j) under84 size95 rfl (by omega))) ?_
            clear H a; intro a H
            refine e_op H rfl rfl (by decide) (x_fieldAddr H rfl rfl (fa95o_4 _ _ _)) ?_
            clear H a; intro a H
            refine e_op H rfl rfl (by decide) (x_fieldAddr H rfl rfl (fa93o_8 _ _ _)) ?_
            clear H a; intro a H
            refine e_op H rfl rfl (by decide) (x_load H rfl rfl (l_cell Try.isAgg91 (hu27))) ?_
            clear H a; intro a H
            refine e_op H rfl rfl (by decide) (x_builtin H rfl rfl (fun cs => len_sl under91)) ?_
            clear H a; intro a H
            refine e_op H rfl rfl (by decide) (x_binI H rfl rfl rfl (b_gtr (b := decide (0 < y.ev.args.length)) (decide_eq_decide.2 (by omega)))) ?_
            clear H a; intro a H
            refine e_nil (hR.out _ _ ?_)
            clear hR R
            refine hK34 _ _ ?_
            clear hK34 K34
            refine Code.wp_mono (Q := fun e a w => e = Exit.normal ∧ Has a 181 [(7, .pointer (some ⟨gr, 0, none⟩)), (13, .slice (some ⟨gw, ow, none⟩) ws.length wsc), (17, .slice (some ⟨gk, ok, none⟩) ks.length kc), (98, .int .i64 ((ws.length : Nat) : Int)), (99, .int .i64 (j : Int))] ∧ Ext wk0 w ∧ Kk w wk0.heap.size gk ok ks (j + 1)) (fun e a w hM => ?_) ?_
            · skip
              clear H hu27 hzk2 KK2 Ew2
              obtain ⟨rfl, H, Ew, KK⟩ := hM
              refine hK29 _ _ ?_
              clear hK29 K29
              refine e_region (fun R hR => ?_)
              refine e_op H rfl rfl (by decide) (x_binI H rfl rfl rfl (b_add (z := ((j + 1 : Nat) : Int)) (by rw [IntKind.wrap_i64]; omega))) ?_
              clear H a; intro a H
              refine e_op H rfl rfl (by decide) (x_move H rfl rfl) ?_
              clear H a; intro a H
              refine e_nil (hR.out _ _ ?_)
              clear hR R
              exact ⟨ws.length - (j + 1), by omega, j + 1, by omega, rfl, H.sub ⟨rfl, rfl, rfl, rfl, rfl, trivial⟩, Ew, fun _ => ⟨gk, ok, rfl, KK⟩⟩
            · skip
              by_cases hl0 : 0 < y.ev.args.length
              · skip
                rw [decide_eq_true hl0] at H
                obtain ⟨gu, ou, hua2, hc0⟩ : ∃ b off, ua2 = some ⟨b, off, none⟩ ∧ wf.cell? ⟨b, off + 0, none⟩ = some (.int .i64 (y.ev.args[0]?.getD 0)) := by
                  obtain ⟨a9, n9, c9, e9, hz9, _⟩ := hzk2.zl
                  simp only [Value.slice.injEq] at e9
                  obtain ⟨rfl, rfl, rfl⟩ := e9
                  exact hz9.cell 0 hl0
                subst hua2
                have hgu := (hzk2.blk gu rfl)
                refine c_true H rfl ?_
                refine e_region (fun R hR => ?_)
                refine e_op H rfl rfl (by decide) (x_move H rfl rfl) ?_
                clear H a; intro a H
                refine e_op H rfl rfl (by decide) (x_move H rfl rfl) ?_
                clear H a; intro a H
                refine e_op H rfl rfl (by decide) (x_indexAddr H rfl rfl rfl (i_slN (m := j) under84 size95 rfl (by omega))) ?_
                clear H a; intro a H
                refine e_op H rfl rfl (by decide) (x_fieldAddr H rfl rfl (fa95o_4 _ _ _)) ?_
                clear H a; intro a H
                refine e_op H rfl rfl (by decide) (x_fieldAddr H rfl rfl (fa93o_8 _ _ _)) ?_
                clear H a; intro a H
                refine e_op H rfl rfl (by decide) (x_load H rfl rfl (l_cell Try.isAgg91 (hu27))) ?_
                clear H a; intro a H
                refine e_op H rfl rfl (by decide) (x_indexAddr H rfl rfl rfl (i_sl (m := 0) under91 Try.sizeOf2 rfl hl0)) ?_
                clear H a; intro a H
                refine e_op H rfl rfl (by decide) (x_load H rfl rfl (l_cell Try.isAgg2 (hc0))) ?_
                clear H a; intro a H
                refine e_op H rfl rfl (by decide) (x_binI H rfl rfl rfl (b_add (z := (IntKind.i64.wrap (y.ev.args[0]?.getD 0 + 1))) (rfl))) ?_
                clear H a; intro a H
                refine e_op H rfl rfl (by decide) (x_indexAddr H rfl rfl rfl (i_sl (m := 0) under91 Try.sizeOf2 rfl hl0)) ?_
                clear H a; intro a H
                refine e_st H rfl rfl (x_store H rfl rfl rfl (st_cell rfl rfl Try.sizeOf2 (froz_of hgu.2.2) ((by rw [hc0]; rfl)))) ?_
                refine e_nil (hR.out _ _ ?_)
                clear hR R
                refine ⟨rfl, H.sub ⟨rfl, rfl, rfl, rfl, rfl, trivial⟩, Ew2.st hgu.1 _ _, KK2.setA hgu.2.2 (fun i p hi hpi => ?_) _ _⟩
                have hij := (List.pairwise_iff_getElem.1 hpw) j i (by omega) (List.getElem?_eq_some_iff.1 hpi).1 (by omega)
                rw [(List.getElem?_eq_some_iff.1 hpi).2, (List.getElem?_eq_some_iff.1 hp).2] at hij
                exact hij gu rfl
              · skip
                rw [decide_eq_false hl0] at H
                refine c_false H rfl ?_
                refine wp_skip ?_
                exact ⟨rfl, H.sub ⟨rfl, rfl, rfl, rfl, rfl, trivial⟩, Ew2, KK2⟩
          · skip
            skip
            refine wp_seq_k (fun K35 hK35 => ?_)
            refine e_region (fun R hR => ?_)
            refine e_op H rfl rfl (by decide) (x_binI H rfl rfl rfl (b_lss (b := false) (dec_f (by omega)))) ?_
            clear H a; intro a H
            refine e_nil (hR.out _ _ ?_)
            clear hR R
            refine hK35 _ _ ?_
            clear hK35 K35
            refine wp_seq_k (fun K36 hK36 => ?_)
            refine c_false H rfl ?_
            refine wp_exit ?_
            refine t_exit ?_
            refine t_exit ?_
            refine b_hit ?_
            clear hK36 K36
            refine hK25 _ _ ?_
            clear hK25 K25
            refine wp_seq_k (fun K37 hK37 => ?_)
            refine e_region (fun R hR => ?_)
            have Rw := Rr.ext Ew
            have E := Ek.tr Ew
            refine e_op H rfl rfl (by decide) (x_move H rfl rfl) ?_
            clear H a; intro a H
            refine e_callq H rfl rfl (by decide) rfl rfl (Try.call69 _) (records_any w0.heap.size gr vr psr r w Rw hpn) ?_
            clear H a
            rintro e wb ⟨vm, ms, rfl, RM, hms, Fb⟩
            refine ⟨_, rfl, fun a H => ?_⟩
            replace RM := RM.mono E.sz
            replace Ew := Ew.tr Fb
            replace E := E.tr Fb
            have RWw := RW.ext Ew
            clear Rw RW
            obtain ⟨ma, mc, rfl, _⟩ := RM.row.shape
            have hml : ms.length = ws.length := by rw [hwl, ← hms, List.length_map]
            refine e_op H rfl rfl (by decide) (x_assign H rfl rfl) ?_
            clear H a; intro a H
            refine e_nil (hR.out _ _ ?_)
            clear hR R
            refine hK37 _ _ ?_
            clear hK37 K37
            refine wp_seq_k (fun K38 hK38 => ?_)
            refine wp_seq_k (fun K39 hK39 => ?_)
            refine e_region (fun R hR => ?_)
            refine e_op H rfl rfl (by decide) (x_move H rfl rfl) ?_
            clear H a; intro a H
            refine e_op H rfl rfl (by decide) (x_builtin H rfl rfl (fun cs => len_sl under84)) ?_
            clear H a; intro a H
            refine e_op H rfl rfl (by decide) (x_move H rfl rfl) ?_
            clear H a; intro a H
            refine e_nil (hR.out _ _ ?_)
            clear hR R
            refine hK39 _ _ ?_
            clear hK39 K39
            refine wp_block ?_
            refine wp_loop_ghost (fun n a w => ∃ j, j ≤ ws.length ∧ n = ws.length - j ∧ Has a 181 [(13, .slice wsa ws.length wsc), (17, .slice ma ms.length mc), (138, .int .i64 ((ws.length : Nat) : Int)), (139, .int .i64 (j : Int))] ∧ Rl w w0.heap.size (.slice wsa ws.length wsc) ws ∧ Rl w w0.heap.size (.slice ma ms.length mc) ms ∧ Ext w0 w) (ws.length) ?_ ?_
            · skip
              exact ⟨0, by omega, rfl, H.sub ⟨rfl, rfl, rfl, rfl, trivial⟩, RWw, RM, E⟩
            · skip
              clear H RWw RM E Ew
              intro n a w hI
              obtain ⟨j, hj, rfl, H, RWw, RM, E⟩ := hI
              rcases (show j < ws.length ∨ j = ws.length by omega) with hlt | hje
              · skip
                obtain ⟨⟨y, uy⟩, hp⟩ : ∃ p, ms[j]? = some p := ⟨_, List.getElem?_eq_getElem (by omega)⟩
                obtain ⟨⟨z, uz⟩, hp2⟩ : ∃ p, ws[j]? = some p := ⟨_, List.getElem?_eq_getElem hlt⟩
                have hyz : y = z := by
                  have h1 : (ms.map (·.1))[j]? = some y := by rw [List.getElem?_map, hp]; rfl
                  have h2 : (ws.map (·.1))[j]? = some z := by rw [List.getElem?_map, hp2]; rfl
                  rw [hms] at h1
                  rw [hws, h1] at h2
                  exact Option.some.inj h2
                subst hyz
                obtain ⟨gk, ok, hka, _, hok, hzp, _⟩ := RM.at_ j (y, uy) hp
                subst hka
                obtain ⟨gq, oq, hqa, _, _, hzq, _⟩ := RWw.at_ j (y, uz) hp2
                subst hqa
                simp only at hok hzp hzq
                refine wp_seq_k (fun K40 hK40 => ?_)
                refine e_region (fun R hR => ?_)
                refine e_op H rfl rfl (by decide) (x_binI H rfl rfl rfl (b_lss (b := true) (dec_t (by omega)))) ?_
                clear H a; intro a H
                refine e_nil (hR.out _ _ ?_)
                clear hR R
                refine hK40 _ _ ?_
                clear hK40 K40
                refine wp_seq_k (fun K41 hK41 => ?_)
                refine c_true H rfl ?_
                refine wp_skip ?_
                refine hK41 _ _ ?_
                clear hK41 K41
                refine wp_seq_k (fun K42 hK42 => ?_)
                refine wp_block ?_
                refine wp_seq_k (fun K43 hK43 => ?_)
                refine e_region (fun R hR => ?_)
                refine e_op H rfl rfl (by decide) (x_move H rfl rfl) ?_
                clear H a; intro a H
                refine e_op H rfl rfl (by decide) (x_assign H rfl rfl) ?_
                clear H a; intro a H
                refine e_nil (hR.out _ _ ?_)
                clear hR R
                refine hK43 _ _ ?_
                clear hK43 K43
                refine wp_seq_k (fun K44 hK44 => ?_)
                obtain ⟨wd, hwd⟩ : ∃ wx, wx = w.drew := ⟨_, rfl⟩
                have Ewd : Ext w wd := by rw [hwd]; exact (Ext.refl _).dr
                replace RWw := RWw.ext Ewd
                replace RM := RM.ext Ewd
                replace E := E.tr Ewd
                have RW0 := RWw
                have RM0 := RM
                have FSq := Ext.refl wd
                replace hzp := hzp.ext Ewd
                replace hzq := hzq.ext Ewd
                refine g_start (fun w' => Ext wd w') (by kernel_rfl) (fun R hR => ?_)
                rw [← hwd]
                refine g_take 0 H rfl (wanted_none rfl) rfl (by decide) (by kernel_rfl) (by kernel_rfl) (by kernel_rfl) FSq (fun w' hSw => (x_move H rfl rfl)) ?_
                clear H a; intro a H
                refine g_take 1 H rfl (wanted_none rfl) rfl (by decide) (by kernel_rfl) (by kernel_rfl) (by kernel_rfl) FSq (fun w' hSw => (x_move H rfl rfl)) ?_
                clear H a; intro a H
                refine g_take 2 H rfl (wanted_none rfl) rfl (by decide) (by kernel_rfl) (by kernel_rfl) (by kernel_rfl) FSq (fun w' hSw => (x_indexAddr H rfl rfl rfl (i_slN (m := j) under84 size95 rfl (by omega)))) ?_
                clear H a; intro a H
                refine g_take 3 H rfl (wanted_none rfl) rfl (by decide) (by kernel_rfl) (by kernel_rfl) (by kernel_rfl) FSq (fun w' hSw => (x_load H rfl rfl (ld_elem (RM0.ext hSw) j (y, uy) hp))) ?_
                clear H a; intro a H
                refine g_take 4 H rfl (wanted_none rfl) rfl (by decide) (by kernel_rfl) (by kernel_rfl) (by kernel_rfl) FSq (fun w' hSw => (x_move H rfl rfl)) ?_
                clear H a; intro a H
                refine g_take 5 H rfl (wanted_none rfl) rfl (by decide) (by kernel_rfl) (by kernel_rfl) (by kernel_rfl) FSq (fun w' hSw => (x_move H rfl rfl)) ?_
                clear H a; intro a H
                refine g_take 6 H rfl (wanted_none rfl) rfl (by decide) (by kernel_rfl) (by kernel_rfl) (by kernel_rfl) FSq (fun w' hSw => (x_indexAddr H rfl rfl rfl (i_slN (m := j) under84 size95 rfl hlt))) ?_
                clear H a; intro a H
                refine g_take 7 H rfl (wanted_none rfl) rfl (by decide) (by kernel_rfl) (by kernel_rfl) (by kernel_rfl) FSq (fun w' hSw => (x_load H rfl rfl (ld_elem (RW0.ext hSw) j (y, uz) hp2))) ?_
                clear H a; intro a H
                refine g_call 8 H rfl (by kernel_rfl) (wanted_none rfl) rfl (by decide) rfl rfl (Try.call73 _) (requal_any y y uy uz _ hok hok hzp.zl hzq.zl) ?_
                clear H a
                rintro e we ⟨rfl, Ee⟩
                replace RWw := RWw.ext Ee
                replace RM := RM.ext Ee
                replace E := E.tr Ee
                replace FSq := FSq.tr Ee
                refine ⟨_, rfl, FSq, fun a H => ?_⟩
                rw [rcd_refl] at H
                refine g_take 9 H rfl (wanted_none rfl) rfl (by decide) (by kernel_rfl) (by kernel_rfl) (by kernel_rfl) FSq (fun w' hSw => (x_un H rfl rfl (u_not (c := false) (rfl)))) ?_
                clear H a; intro a H
                refine g_done (by kernel_rfl) (hR.out _ _ ?_)
                clear hR R
                refine hK44 _ _ ?_
                clear hK44 K44
                refine c_false H rfl ?_
                refine wp_skip ?_
                refine hK42 _ _ ?_
                clear hK42 K42
                refine e_region (fun R hR => ?_)
                refine e_op H rfl rfl (by decide) (x_binI H rfl rfl rfl (b_add (z := ((j + 1 : Nat) : Int)) (by rw [IntKind.wrap_i64]; omega))) ?_
                clear H a; intro a H
                refine e_op H rfl rfl (by decide) (x_move H rfl rfl) ?_
                clear H a; intro a H
                refine e_nil (hR.out _ _ ?_)
                clear hR R
                exact ⟨ws.length - (j + 1), by omega, j + 1, by omega, rfl, H.sub ⟨rfl, rfl, rfl, rfl, trivial⟩, RWw, RM, E⟩
              · skip
                skip
                refine wp_seq_k (fun K45 hK45 => ?_)
                refine e_region (fun R hR => ?_)
                refine e_op H rfl rfl (by decide) (x_binI H rfl rfl rfl (b_lss (b := false) (dec_f (by omega)))) ?_
                clear H a; intro a H
                refine e_nil (hR.out _ _ ?_)
                clear hR R
                refine hK45 _ _ ?_
                clear hK45 K45
                refine wp_seq_k (fun K46 hK46 => ?_)
                refine c_false H rfl ?_
                refine wp_exit ?_
                refine t_exit ?_
                refine t_exit ?_
                refine b_hit ?_
                clear hK46 K46
                refine hK38 _ _ ?_
                clear hK38 K38
                refine wp_seq_k (fun K47 hK47 => ?_)
                refine e_region (fun R hR => ?_)
                refine e_op H rfl rfl (by decide) (x_assign H rfl rfl) ?_
                clear H a; intro a H
                refine e_nil (hR.out _ _ ?_)
                clear hR R
                refine hK47 _ _ ?_
                clear hK47 K47
                refine wp_seq_k (fun K48 hK48 => ?_)
                refine e_region (fun R hR => ?_)
                refine e_op H rfl rfl (by decide) (x_move H rfl rfl) ?_
                clear H a; intro a H
                refine e_callq H rfl rfl (by decide) rfl rfl (Try.call96 _) (entry_any 0 [] none 0 0 w) ?_
                clear H a
                rintro e wy ⟨rfl, Fy⟩
                refine ⟨_, rfl, fun a H => ?_⟩
                refine e_callq H rfl rfl (by decide) rfl rfl (Try.call68 _) (put_nil (entR 0 []) (.slice none 0 0) wy) ?_
                clear H a
                rintro e wz ⟨rfl, Fz⟩
                refine ⟨_, rfl, fun a H => ?_⟩
                have EZ := (E.tr Fy).tr Fz
                refine e_op H rfl rfl (by decide) (x_move H rfl rfl) ?_
                clear H a; intro a H
                refine e_op H rfl rfl (by decide) (x_ext0 H rfl rfl) ?_
                clear H a; intro a H
                refine e_op H rfl rfl (by decide) (x_ext1 H rfl rfl) ?_
                clear H a; intro a H
                refine e_op H rfl rfl (by decide) (x_assign H rfl rfl) ?_
                clear H a; intro a H
                refine e_nil (hR.out _ _ ?_)
                clear hR R
                refine hK48 _ _ ?_
                clear hK48 K48
                refine wp_seq_k (fun K49 hK49 => ?_)
                refine e_region (fun R hR => ?_)
                refine e_op H rfl rfl (by decide) (x_move H rfl rfl) ?_
                clear H a; intro a H
                refine e_op H rfl rfl (by decide) (x_binI H rfl rfl rfl (b_eql (b := true) (rfl))) ?_
                clear H a; intro a H
                refine e_op H rfl rfl (by decide) (x_move H rfl rfl) ?_
                clear H a; intro a H
                refine e_opg H (wanted_true H rfl rfl rfl rfl) rfl (by decide) (x_move H rfl rfl) ?_
                clear H a; intro a H
                refine e_callqg H (wanted_true H rfl rfl rfl rfl) rfl (by decide) rfl rfl (Try.call69 _) (records_nil wz) ?_
                clear H a
                rintro e w9 ⟨rfl, hw9⟩
                obtain rfl : wz = w9 := hw9.symm
                refine ⟨_, rfl, fun a H => ?_⟩
                refine e_opg H (wanted_true H rfl rfl rfl rfl) rfl (by decide) (x_builtin H rfl rfl (fun cs => len_sl under84)) ?_
                clear H a; intro a H
                refine e_opg H (wanted_true H rfl rfl rfl rfl) rfl (by decide) (x_move H rfl rfl) ?_
                clear H a; intro a H
                refine e_callqg H (wanted_true H rfl rfl rfl rfl) rfl (by decide) rfl rfl (Try.call87 _) (rlen_nil wz) ?_
                clear H a
                rintro e w9 ⟨rfl, hw9⟩
                obtain rfl : wz = w9 := hw9.symm
                refine ⟨_, rfl, fun a H => ?_⟩
                refine e_opg H (wanted_true H rfl rfl rfl rfl) rfl (by decide) (x_binI H rfl rfl rfl (b_add (z := 0) (rfl))) ?_
                clear H a; intro a H
                refine e_opg H (wanted_true H rfl rfl rfl rfl) rfl (by decide) (x_move H rfl rfl) ?_
                clear H a; intro a H
                refine e_callqg H (wanted_true H rfl rfl rfl rfl) rfl (by decide) rfl rfl (Try.call93 _) (used_nil wz) ?_
                clear H a
                rintro e w9 ⟨rfl, hw9⟩
                obtain rfl : wz = w9 := hw9.symm
                refine ⟨_, rfl, fun a H => ?_⟩
                refine e_opg H (wanted_true H rfl rfl rfl rfl) rfl (by decide) (x_binI H rfl rfl rfl (b_add (z := 0) (rfl))) ?_
                clear H a; intro a H
                refine e_opg H (wanted_true H rfl rfl rfl rfl) rfl (by decide) (x_move H rfl rfl) ?_
                clear H a; intro a H
                refine e_callqg H (wanted_true H rfl rfl rfl rfl) rfl (by decide) rfl rfl (Try.call88 _) (lost_nil wz) ?_
                clear H a
                rintro e w9 ⟨rfl, hw9⟩
                obtain rfl : wz = w9 := hw9.symm
                refine ⟨_, rfl, fun a H => ?_⟩
                refine e_opg H (wanted_true H rfl rfl rfl rfl) rfl (by decide) (x_conv H rfl rfl (c_int (z := 0) Try.underlying56 Try.underlying3 (rfl))) ?_
                clear H a; intro a H
                refine e_opg H (wanted_true H rfl rfl rfl rfl) rfl (by decide) (x_binI H rfl rfl rfl (b_add (z := 0) (rfl))) ?_
                clear H a; intro a H
                refine e_opg H (wanted_true H rfl rfl rfl rfl) rfl (by decide) (x_move H rfl rfl) ?_
                clear H a; intro a H
                refine e_callqg H (wanted_true H rfl rfl rfl rfl) rfl (by decide) rfl rfl (Try.call71 _) (file_nil wz) ?_
                clear H a
                rintro e w9 ⟨rfl, hw9⟩
                obtain rfl : wz = w9 := hw9.symm
                refine ⟨_, rfl, fun a H => ?_⟩
                refine e_opg H (wanted_true H rfl rfl rfl rfl) rfl (by decide) (x_builtin H rfl rfl (fun cs => len_sl Try.underlying22)) ?_
                clear H a; intro a H
                refine e_opg H (wanted_true H rfl rfl rfl rfl) rfl (by decide) (x_binI H rfl rfl rfl (b_add (z := 0) (rfl))) ?_
                clear H a; intro a H
                refine e_opg H (wanted_true H rfl rfl rfl rfl) rfl (by decide) (x_binI H rfl rfl rfl (b_eql (b := true) (rfl))) ?_
                clear H a; intro a H
                refine e_op H rfl rfl (by decide) (x_pickT H rfl rfl rfl) ?_
                clear H a; intro a H
                refine e_op H rfl rfl (by decide) (x_assign H rfl rfl) ?_
                clear H a; intro a H
                refine e_nil (hR.out _ _ ?_)
                clear hR R
                refine hK49 _ _ ?_
                clear hK49 K49
                refine wp_ret ?_
                exact ret1 H rfl rfl ⟨rfl, EZ⟩
      · skip
        by_cases hg : x.good = true
        · skip
          rw [hg] at H
          refine c_false H rfl ?_
          refine wp_skip ?_
          exact ⟨rfl, H.sub ⟨rfl, rfl, rfl, trivial⟩, Rr, RW, E⟩
        · skip
          simp only [Bool.not_eq_true] at hg
          rw [hg] at H
          refine c_true H rfl ?_
          refine wp_seq_k (fun K50 hK50 => ?_)
          refine e_region (fun R hR => ?_)
          refine e_op H rfl rfl (by decide) (x_move H rfl rfl) ?_
          clear H a; intro a H
          refine e_op H rfl rfl (by decide) (x_load H rfl rfl (ld_rec T5 hx.words)) ?_
          clear H a; intro a H
          refine e_callq H rfl rfl (by decide) rfl rfl (Try.call68 _) (put_bad w0.heap.size gr vr psr r x _ Rr hx ua un uc (hu.ext E) hg) ?_
          clear H a
          rintro e we ⟨rfl, Fe⟩
          refine ⟨_, rfl, fun a H => ?_⟩
          replace RW := RW.ext Fe
          replace Rr := Rr.ext Fe
          replace T5 := T5.ext Fe
          replace E := E.tr Fe
          refine e_op H rfl rfl (by decide) (x_move H rfl rfl) ?_
          clear H a; intro a H
          refine e_op H rfl rfl (by decide) (x_ext0 H rfl rfl) ?_
          clear H a; intro a H
          refine e_op H rfl rfl (by decide) (x_ext1 H rfl rfl) ?_
          clear H a; intro a H
          refine e_op H rfl rfl (by decide) (x_assign H rfl rfl) ?_
          clear H a; intro a H
          refine e_nil (hR.out _ _ ?_)
          clear hR R
          refine hK50 _ _ ?_
          clear hK50 K50
          refine wp_seq_k (fun K51 hK51 => ?_)
          refine e_region (fun R hR => ?_)
          refine e_op H rfl rfl (by decide) (x_move H rfl rfl) ?_
          clear H a; intro a H
          refine e_op H rfl rfl (by decide) (x_binI H rfl rfl rfl (b_neq (b := false) (rfl))) ?_
          clear H a; intro a H
          refine e_nil (hR.out _ _ ?_)
          clear hR R
          refine hK51 _ _ ?_
          clear hK51 K51
          refine c_false H rfl ?_
          refine wp_skip ?_
          exact ⟨rfl, H.sub ⟨rfl, rfl, rfl, trivial⟩, Rr, RW, E⟩
theorem ringErrs0 (cap : Int) (comp first : Nat) (pa : Option Addr) (len pc : Nat) (ss : List RStep) (x : Rcd) (ua : Option Addr) (un uc : Nat) (w0 : World) (hr : Rt w0 pa len ss) (hc2 : cap ≤ 9223372036854775807) (hc : comp ≤ 255) (hf : first ≤ 4294967295) (hlen : len ≤ 8796093021952) (hx : x.ok) (hu : Zl w0 (.slice ua un uc) x.ev.args) (hcap : ¬ 1 ≤ cap) :
    Calls Try.prog 26 #[.int .i64 cap, .agg (plCells comp first (.slice pa len pc)).toArray, .agg (x.cells (.slice ua un uc)).toArray] w0 fun e w' => e = .returned (.bool true) ∧ Ext w0 w' := by
  have hss : ∀ s ∈ ss, s.ok := fun s hs => by
    obtain ⟨k, hk⟩ := List.getElem?_of_mem hs
    exact (hr.cell k s hk).1
  refine calls_has (args := [.int .i64 cap, .agg (plCells comp first (.slice pa len pc)).toArray, .agg (x.cells (.slice ua un uc)).toArray]) Try.func26 rfl Try.ntmps26 (Nat.le_of_ble_eq_true rfl) (fun a H => ?_)
  simp only [argl, Nat.reduceAdd] at H
  refine wp_seq_k (fun K1 hK1 => ?_)
  refine e_region (fun R hR => ?_)
  refine e_op H rfl rfl (by decide) (x_box H rfl rfl bx_new) ?_
  clear H a; intro a H
  have B4 := Blk.new w0 80 (plCells comp first (.slice pa len pc))
  have E0 := (Ext.refl w0).al (.cells (plCells comp first (.slice pa len pc)).toArray 80)
  obtain ⟨g4, hg4⟩ : ∃ g, g = w0.heap.size := ⟨_, rfl⟩
  rw [← hg4] at H B4
  generalize w0.alloc (.cells (plCells comp first (.slice pa len pc)).toArray 80) = wa0 at *
  refine e_op H rfl rfl (by decide) (x_box H rfl rfl bx_new) ?_
  clear H a; intro a H
  have T5 := Blk.new wa0 95 (x.cells (.slice ua un uc))
  replace B4 := B4.alloc (.cells (x.cells (.slice ua un uc)).toArray 95)
  have E1 := E0.al (.cells (x.cells (.slice ua un uc)).toArray 95)
  obtain ⟨g5, hg5⟩ : ∃ g, g = wa0.heap.size := ⟨_, rfl⟩
  rw [← hg5] at H T5
  generalize wa0.alloc (.cells (x.cells (.slice ua un uc)).toArray 95) = w1 at *
  refine e_op H rfl rfl (by decide) (x_assign H rfl rfl) ?_
  clear H a; intro a H
  refine e_nil (hR.out _ _ ?_)
  clear hR R
  refine hK1 _ _ ?_
  clear hK1 K1
  refine wp_seq_k (fun K2 hK2 => ?_)
  refine wp_seq_k (fun K3 hK3 => ?_)
  refine e_region (fun R hR => ?_)
  refine e_callq H rfl rfl (by decide) rfl rfl (Try.call65 _) (rawake_any w1) ?_
  clear H a
  rintro e w2 ⟨rfl, F2⟩
  refine ⟨_, rfl, fun a H => ?_⟩
  have E2 := E1.tr F2
  replace B4 := B4.ext F2
  replace T5 := T5.ext F2
  refine e_op H rfl rfl (by decide) (x_un H rfl rfl (u_not (c := false) (rfl))) ?_
  clear H a; intro a H
  refine e_nil (hR.out _ _ ?_)
  clear hR R
  refine hK3 _ _ ?_
  clear hK3 K3
  refine c_false H rfl ?_
  refine wp_skip ?_
  refine hK2 _ _ ?_
  clear hK2 K2
  refine wp_seq_k (fun K4 hK4 => ?_)
  refine e_region (fun R hR => ?_)
  refine e_op H rfl rfl (by decide) (x_move H rfl rfl) ?_
  clear H a; intro a H
  refine e_callq H rfl rfl (by decide) rfl rfl (Try.call66 _) (newRing_err cap (by omega) w2) ?_
  clear H a
  rintro e w3 ⟨rfl, h32⟩
  obtain rfl : w2 = w3 := h32.symm
  refine ⟨_, rfl, fun a H => ?_⟩
  have E3 := E2
  refine e_op H rfl rfl (by decide) (x_move H rfl rfl) ?_
  clear H a; intro a H
  refine e_op H rfl rfl (by decide) (x_ext0 H rfl rfl) ?_
  clear H a; intro a H
  refine e_op H rfl rfl (by decide) (x_ext1 H rfl rfl) ?_
  clear H a; intro a H
  refine e_op H rfl rfl (by decide) (x_assign H rfl rfl) ?_
  clear H a; intro a H
  refine e_op H rfl rfl (by decide) (x_assign H rfl rfl) ?_
  clear H a; intro a H
  refine e_nil (hR.out _ _ ?_)
  clear hR R
  refine hK4 _ _ ?_
  clear hK4 K4
  refine wp_seq_k (fun K5 hK5 => ?_)
  refine wp_seq_k (fun K6 hK6 => ?_)
  refine e_region (fun R hR => ?_)
  refine e_op H rfl rfl (by decide) (x_move H rfl rfl) ?_
  clear H a; intro a H
  refine e_op H rfl rfl (by decide) (x_binI H rfl rfl rfl (b_eql (b := false) (rfl))) ?_
  clear H a; intro a H
  refine e_op H rfl rfl (by decide) (x_move H rfl rfl) ?_
  clear H a; intro a H
  refine e_op H rfl rfl (by decide) (x_binI H rfl rfl rfl (b_geq (b := false) (dec_f (by omega)))) ?_
  clear H a; intro a H
  refine e_op H rfl rfl (by decide) (x_bin H rfl rfl rfl (by rw [eqGuard_at_bool]; rfl) (b_neqB (c := false) Try.underlying4 rfl)) ?_
  clear H a; intro a H
  refine e_op H rfl rfl (by decide) (x_move H rfl rfl) ?_
  clear H a; intro a H
  refine e_opg H (wanted_true H rfl rfl rfl rfl) rfl (by decide) (x_move H rfl rfl) ?_
  clear H a; intro a H
  refine e_opg H (wanted_true H rfl rfl rfl rfl) rfl (by decide) (x_bin H rfl rfl rfl (by rw [eqGuard_at_pointer]; rfl) (b_npnil (c := false) under81 rfl)) ?_
  clear H a; intro a H
  refine e_opg H (wanted_true H rfl rfl rfl rfl) rfl (by decide) (x_move H rfl rfl) ?_
  clear H a; intro a H
  refine e_opg H (wanted_true H rfl rfl rfl rfl) rfl (by decide) (x_binI H rfl rfl rfl (b_eql (b := false) (rfl))) ?_
  clear H a; intro a H
  refine e_opg H (wanted_true H rfl rfl rfl rfl) rfl (by decide) (x_bin H rfl rfl rfl (by rw [eqGuard_at_bool]; rfl) (b_neqB (c := false) Try.underlying4 rfl)) ?_
  clear H a; intro a H
  refine e_op H rfl rfl (by decide) (x_pickF H rfl rfl rfl) ?_
  clear H a; intro a H
  refine e_op H rfl rfl (by decide) (x_move H rfl rfl) ?_
  clear H a; intro a H
  refine e_opg H (wanted_true H rfl rfl rfl rfl) rfl (by decide) (x_move H rfl rfl) ?_
  clear H a; intro a H
  refine e_opg H (wanted_true H rfl rfl rfl rfl) rfl (by decide) (x_binI H rfl rfl rfl (b_neq (b := true) (rfl))) ?_
  clear H a; intro a H
  refine e_opg H (wanted_true H rfl rfl rfl rfl) rfl (by decide) (x_move H rfl rfl) ?_
  clear H a; intro a H
  refine e_opg H (wanted_true H rfl rfl rfl rfl) rfl (by decide) (x_move H rfl rfl) ?_
  clear H a; intro a H
  refine e_opg H (wanted_true H rfl rfl rfl rfl) rfl (by decide) (x_binI H rfl rfl rfl (b_neq (b := false) (rfl))) ?_
  clear H a; intro a H
  refine e_opg H (wanted_true H rfl rfl rfl rfl) rfl (by decide) (x_pickT H rfl rfl rfl) ?_
  clear H a; intro a H
  refine e_op H rfl rfl (by decide) (x_pickF H rfl rfl rfl) ?_
  clear H a; intro a H
  refine e_nil (hR.out _ _ ?_)
  clear hR R
  refine hK6 _ _ ?_
  clear hK6 K6
  refine c_false H rfl ?_
  refine wp_skip ?_
  refine hK5 _ _ ?_
  clear hK5 K5
  refine wp_seq_k (fun K7 hK7 => ?_)
  refine wp_seq_k (fun K8 hK8 => ?_)
  refine e_region (fun R hR => ?_)
  refine e_op H rfl rfl (by decide) (x_load H rfl rfl (l_part (cs := plCells comp first (.slice pa len pc)) isAgg80 size80 (fun j v hv => by rw [B4.cell, Nat.zero_add]; exact hv))) ?_
  clear H a; intro a H
  refine e_callq H rfl rfl (by decide) rfl rfl (Try.call67 _) (goodP_any comp first pa len pc ss w2 (hr.ext E3) hc hf hlen) ?_
  clear H a
  rintro e w5 ⟨vq, qs, rfl, RL, hqs, F5⟩
  refine ⟨_, rfl, fun a H => ?_⟩
  have E5 := E3.tr F5
  replace RL := RL.mono E3.sz
  replace T5 := T5.ext F5
  obtain ⟨qa, qc, rfl, _⟩ := RL.row.shape
  obtain ⟨hs, hhs⟩ : ∃ n, n = w5.heap.size := ⟨_, rfl⟩
  have hg5s : g5 < hs := by have := T5.lt; omega
  have hqold : ∀ k, (Value.slice qa qs.length qc).ownBlock = some k → k < hs := fun k hk => by have := (RL.row.blk k hk).2.1; omega
  have hQL : qs.length = (goodOf comp first ss).length := by have := congrArg List.length hqs; rwa [List.length_map] at this
  have hql : qs.length ≤ 40 := by rw [hQL]; exact good_len _ _ _
  refine e_op H rfl rfl (by decide) (x_builtin H rfl rfl (fun cs => len_sl under84)) ?_
  clear H a; intro a H
  refine e_op H rfl rfl (by decide) (x_move H rfl rfl) ?_
  clear H a; intro a H
  refine e_nil (hR.out _ _ ?_)
  clear hR R
  refine hK8 _ _ ?_
  clear hK8 K8
  refine wp_block ?_
  refine wp_loop_ghost (fun n a w => ∃ i, i ≤ qs.length ∧ n = qs.length - i ∧ Has a 181 [(5, .pointer (some ⟨g5, 0, none⟩)), (7, .pointer none), (49, .slice qa qs.length qc), (50, .int .i64 ((qs.length : Nat) : Int)), (51, .int .i64 (i : Int))] ∧ Blk w g5 95 (x.cells (.slice ua un uc)) ∧ Rl w w0.heap.size (.slice qa qs.length qc) qs ∧ Ext w0 w) (qs.length) ?_ ?_
  · skip
    exact ⟨0, by omega, rfl, H.sub ⟨rfl, rfl, rfl, rfl, rfl, trivial⟩, T5, RL, E5⟩
  · skip
    clear H RL E5 T5
    intro n a w hI
    obtain ⟨i, hi, rfl, H, T5, RL, E⟩ := hI
    rcases (show i < qs.length ∨ i = qs.length by omega) with hlt | hie
    · skip
      obtain ⟨⟨y, uy⟩, hp⟩ : ∃ p, qs[i]? = some p := ⟨_, List.getElem?_eq_getElem hlt⟩
      obtain ⟨gq, oq, hqa, hcl, hok, hzp, _⟩ := RL.at_ i (y, uy) hp
      subst hqa
      have hld := ld_elem RL i (y, uy) hp
      simp only at hok hzp hld
      obtain ⟨ua2, uc2, rfl, _⟩ := (Sr.of hzp.1).shape
      refine wp_seq_k (fun K9 hK9 => ?_)
      refine e_region (fun R hR => ?_)
      refine e_op H rfl rfl (by decide) (x_binI H rfl rfl rfl (b_lss (b := true) (dec_t (by omega)))) ?_
      clear H a; intro a H
      refine e_nil (hR.out _ _ ?_)
      clear hR R
      refine hK9 _ _ ?_
      clear hK9 K9
      refine wp_seq_k (fun K10 hK10 => ?_)
      refine c_true H rfl ?_
      refine wp_skip ?_
      refine hK10 _ _ ?_
      clear hK10 K10
      refine wp_seq_k (fun K11 hK11 => ?_)
      refine wp_block ?_
      refine wp_seq_k (fun K12 hK12 => ?_)
      refine e_region (fun R hR => ?_)
      refine e_op H rfl rfl (by decide) (x_indexAddr H rfl rfl rfl (i_slN (m := i) under84 size95 rfl hlt)) ?_
      clear H a; intro a H
      refine e_op H rfl rfl (by decide) (x_load H rfl rfl hld) ?_
      clear H a; intro a H
      refine e_op H rfl rfl (by decide) (x_alloc H rfl (al_new (z95 _))) ?_
      clear H a; intro a H
      refine e_st H rfl rfl (x_store H rfl rfl rfl (st_row (Blk.new w 95 zero95) (by rw [info95]; simp [Rcd.cells_len _ _ hok.words]) (by simp [Rcd.cells_len _ _ hok.words, zero95]) (by rw [Array.all_eq_true']; intro z hz; exact cells_one y ua2 y.ev.args.length uc2 z (by simpa using hz)))) ?_
      obtain ⟨T, Ex⟩ := copy_rec w y (.slice ua2 y.ev.args.length uc2) hok.words
      obtain ⟨gx, hgx⟩ : ∃ g, g = w.heap.size := ⟨_, rfl⟩
      rw [← hgx] at H T Ex
      rw [← hgx]
      generalize (w.alloc (.cells zero95.toArray 95)).setRow gx (y.cells (.slice ua2 y.ev.args.length uc2)).toArray = wa at *
      replace RL := RL.ext Ex
      replace T5 := T5.ext Ex
      replace E := E.tr Ex
      refine e_nil (hR.out _ _ ?_)
      clear hR R
      refine hK12 _ _ ?_
      clear hK12 K12
      refine wp_seq_k (fun K13 hK13 => ?_)
      refine e_region (fun R hR => ?_)
      refine e_op H rfl rfl (by decide) (x_move H rfl rfl) ?_
      clear H a; intro a H
      refine e_op H rfl rfl (by decide) (x_load H rfl rfl (ld_rec T hok.words)) ?_
      clear H a; intro a H
      refine e_callq H rfl rfl (by decide) rfl rfl (Try.call68 _) (put_nil y _ wa) ?_
      clear H a
      rintro e wb ⟨rfl, FF⟩
      refine ⟨_, rfl, fun a H => ?_⟩
      replace RL := RL.ext FF
      replace T5 := T5.ext FF
      replace E := E.tr FF
      refine e_op H rfl rfl (by decide) (x_move H rfl rfl) ?_
      clear H a; intro a H
      refine e_op H rfl rfl (by decide) (x_ext0 H rfl rfl) ?_
      clear H a; intro a H
      refine e_op H rfl rfl (by decide) (x_ext1 H rfl rfl) ?_
      clear H a; intro a H
      refine e_op H rfl rfl (by decide) (x_assign H rfl rfl) ?_
      clear H a; intro a H
      refine e_op H rfl rfl (by decide) (x_assign H rfl rfl) ?_
      clear H a; intro a H
      refine e_nil (hR.out _ _ ?_)
      clear hR R
      refine hK13 _ _ ?_
      clear hK13 K13
      refine wp_seq_k (fun K14 hK14 => ?_)
      refine e_region (fun R hR => ?_)
      refine e_op H rfl rfl (by decide) (x_move H rfl rfl) ?_
      clear H a; intro a H
      refine e_op H rfl rfl (by decide) (x_binI H rfl rfl rfl (b_eql (b := false) (rfl))) ?_
      clear H a; intro a H
      refine e_op H rfl rfl (by decide) (x_move H rfl rfl) ?_
      clear H a; intro a H
      refine e_op H rfl rfl (by decide) (x_bin H rfl rfl rfl (by rw [eqGuard_at_pointer]; rfl) (b_npnil (c := false) under81 rfl)) ?_
      clear H a; intro a H
      refine e_op H rfl rfl (by decide) (x_bin H rfl rfl rfl (by rw [eqGuard_at_bool]; rfl) (b_neqB (c := false) Try.underlying4 rfl)) ?_
      clear H a; intro a H
      refine e_nil (hR.out _ _ ?_)
      clear hR R
      refine hK14 _ _ ?_
      clear hK14 K14
      refine c_false H rfl ?_
      refine wp_skip ?_
      refine hK11 _ _ ?_
      clear hK11 K11
      refine e_region (fun R hR => ?_)
      refine e_op H rfl rfl (by decide) (x_binI H rfl rfl rfl (b_add (z := ((i + 1 : Nat) : Int)) (by rw [IntKind.wrap_i64]; omega))) ?_
      clear H a; intro a H
      refine e_op H rfl rfl (by decide) (x_move H rfl rfl) ?_
      clear H a; intro a H
      refine e_nil (hR.out _ _ ?_)
      clear hR R
      exact ⟨qs.length - (i + 1), by omega, i + 1, by omega, rfl, H.sub ⟨rfl, rfl, rfl, rfl, rfl, trivial⟩, T5, RL, E⟩
    · skip
      skip
      refine wp_seq_k (fun K15 hK15 => ?_)
      refine e_region (fun R hR => ?_)
      refine e_op H rfl rfl (by decide) (x_binI H rfl rfl rfl (b_lss (b := false) (dec_f (by omega)))) ?_
      clear H a; intro a H
      refine e_nil (hR.out _ _ ?_)
      clear hR R
      refine hK15 _ _ ?_
      clear hK15 K15
      refine wp_seq_k (fun K16 hK16 => ?_)
      refine c_false H rfl ?_
      refine wp_exit ?_
      refine t_exit ?_
      refine t_exit ?_
      refine b_hit ?_
      clear hK16 K16
      refine hK7 _ _ ?_
      clear hK7 K7
      refine wp_seq_k (fun K17 hK17 => ?_)
      refine e_region (fun R hR => ?_)
      refine e_op H rfl rfl (by decide) (x_move H rfl rfl) ?_
      clear H a; intro a H
      refine e_callq H rfl rfl (by decide) rfl rfl (Try.call69 _) (records_nil w) ?_
      clear H a
      rintro e wb ⟨rfl, hww⟩
      obtain rfl : w = wb := hww.symm
      refine ⟨_, rfl, fun a H => ?_⟩
      refine e_op H rfl rfl (by decide) (x_assign H rfl rfl) ?_
      clear H a; intro a H
      refine e_nil (hR.out _ _ ?_)
      clear hR R
      refine hK17 _ _ ?_
      clear hK17 K17
      refine wp_seq_k (fun K18 hK18 => ?_)
      refine e_region (fun R hR => ?_)
      refine e_op H rfl rfl (by decide) (x_move H rfl rfl) ?_
      clear H a; intro a H
      refine e_op H rfl rfl (by decide) (x_build H rfl rfl (bldend _)) ?_
      clear H a; intro a H
      refine e_callq H rfl rfl (by decide) rfl rfl (Try.call68 _) (put_nil endR (.slice none 0 0) w) ?_
      clear H a
      rintro e wc ⟨rfl, Fc⟩
      refine ⟨_, rfl, fun a H => ?_⟩
      replace T5 := T5.ext Fc
      replace E := E.tr Fc
      refine e_op H rfl rfl (by decide) (x_move H rfl rfl) ?_
      clear H a; intro a H
      refine e_op H rfl rfl (by decide) (x_ext0 H rfl rfl) ?_
      clear H a; intro a H
      refine e_op H rfl rfl (by decide) (x_ext1 H rfl rfl) ?_
      clear H a; intro a H
      refine e_op H rfl rfl (by decide) (x_assign H rfl rfl) ?_
      clear H a; intro a H
      refine e_op H rfl rfl (by decide) (x_assign H rfl rfl) ?_
      clear H a; intro a H
      refine e_nil (hR.out _ _ ?_)
      clear hR R
      refine hK18 _ _ ?_
      clear hK18 K18
      refine wp_seq_k (fun K19 hK19 => ?_)
      refine e_region (fun R hR => ?_)
      refine e_op H rfl rfl (by decide) (x_assign H rfl rfl) ?_
      clear H a; intro a H
      refine e_nil (hR.out _ _ ?_)
      clear hR R
      refine hK19 _ _ ?_
      clear hK19 K19
      refine wp_seq_k (fun K20 hK20 => ?_)
      refine wp_seq_k (fun K21 hK21 => ?_)
      refine e_region (fun R hR => ?_)
      refine e_op H rfl rfl (by decide) (x_load H rfl rfl (ld_rec T5 hx.words)) ?_
      clear H a; intro a H
      refine e_callq H rfl rfl (by decide) rfl rfl (Try.call90 _) (check_any x (.slice ua un uc) wc hx (hu.ext E)) ?_
      clear H a
      rintro e wd ⟨rfl, Fd⟩
      refine ⟨_, rfl, fun a H => ?_⟩
      replace T5 := T5.ext Fd
      replace E := E.tr Fd
      refine e_op H rfl rfl (by decide) (x_binI H rfl rfl rfl (b_neq (b := (!x.good)) (by cases x.good <;> rfl))) ?_
      clear H a; intro a H
      refine e_nil (hR.out _ _ ?_)
      clear hR R
      refine hK21 _ _ ?_
      clear hK21 K21
      refine Code.wp_mono (Q := fun e a w => e = Exit.normal ∧ Has a 181 [(7, .pointer none), (13, .slice none 0 0), (15, .int .i64 1)] ∧ Ext w0 w) (fun e a w hM => ?_) ?_
      · skip
        clear H E T5
        obtain ⟨rfl, H, E⟩ := hM
        refine hK20 _ _ ?_
        clear hK20 K20
        refine wp_seq_k (fun K22 hK22 => ?_)
        refine e_region (fun R hR => ?_)
        refine e_op H rfl rfl (by decide) (x_move H rfl rfl) ?_
        clear H a; intro a H
        refine e_callq H rfl rfl (by decide) rfl rfl (Try.call69 _) (records_nil w) ?_
        clear H a
        rintro e wb ⟨rfl, hww⟩
        obtain rfl : w = wb := hww.symm
        refine ⟨_, rfl, fun a H => ?_⟩
        refine e_op H rfl rfl (by decide) (x_assign H rfl rfl) ?_
        clear H a; intro a H
        refine e_nil (hR.out _ _ ?_)
        clear hR R
        refine hK22 _ _ ?_
        clear hK22 K22
        refine wp_seq_k (fun K23 hK23 => ?_)
        refine wp_seq_k (fun K24 hK24 => ?_)
        refine e_region (fun R hR => ?_)
        refine e_op H rfl rfl (by decide) (x_move H rfl rfl) ?_
        clear H a; intro a H
        refine e_op H rfl rfl (by decide) (x_binI H rfl rfl rfl (b_neq (b := false) (rfl))) ?_
        clear H a; intro a H
        refine e_op H rfl rfl (by decide) (x_move H rfl rfl) ?_
        clear H a; intro a H
        refine e_opg H (wanted_true H rfl rfl rfl rfl) rfl (by decide) (x_move H rfl rfl) ?_
        clear H a; intro a H
        refine e_opg H (wanted_true H rfl rfl rfl rfl) rfl (by decide) (x_builtin H rfl rfl (fun cs => len_sl under84)) ?_
        clear H a; intro a H
        refine e_opg H (wanted_true H rfl rfl rfl rfl) rfl (by decide) (x_move H rfl rfl) ?_
        clear H a; intro a H
        refine e_opg H (wanted_true H rfl rfl rfl rfl) rfl (by decide) (x_builtin H rfl rfl (fun cs => len_sl under84)) ?_
        clear H a; intro a H
        refine e_opg H (wanted_true H rfl rfl rfl rfl) rfl (by decide) (x_binI H rfl rfl rfl (b_neq (b := false) (rfl))) ?_
        clear H a; intro a H
        refine e_op H rfl rfl (by decide) (x_pickF H rfl rfl rfl) ?_
        clear H a; intro a H
        refine e_nil (hR.out _ _ ?_)
        clear hR R
        refine hK24 _ _ ?_
        clear hK24 K24
        refine c_false H rfl ?_
        refine wp_skip ?_
        refine hK23 _ _ ?_
        clear hK23 K23
        refine wp_seq_k (fun K25 hK25 => ?_)
        refine wp_seq_k (fun K26 hK26 => ?_)
        refine e_region (fun R hR => ?_)
        refine e_op H rfl rfl (by decide) (x_move H rfl rfl) ?_
        clear H a; intro a H
        refine e_op H rfl rfl (by decide) (x_builtin H rfl rfl (fun cs => len_sl under84)) ?_
        clear H a; intro a H
        refine e_op H rfl rfl (by decide) (x_move H rfl rfl) ?_
        clear H a; intro a H
        refine e_nil (hR.out _ _ ?_)
        clear hR R
        refine hK26 _ _ ?_
        clear hK26 K26
        refine wp_block ?_
        refine wp_loop_ghost (fun n a w => n = 0 ∧ Has a 181 [(7, .pointer none), (13, .slice none 0 0), (98, .int .i64 0), (99, .int .i64 0)] ∧ Ext w0 w) (0) ?_ ?_
        · skip
          exact ⟨rfl, H.sub ⟨rfl, rfl, rfl, rfl, trivial⟩, E⟩
        · skip
          clear H E
          intro n a w hI
          obtain ⟨rfl, H, E⟩ := hI
          skip
          refine wp_seq_k (fun K27 hK27 => ?_)
          refine e_region (fun R hR => ?_)
          refine e_op H rfl rfl (by decide) (x_binI H rfl rfl rfl (b_lss (b := false) (rfl))) ?_
          clear H a; intro a H
          refine e_nil (hR.out _ _ ?_)
          clear hR R
          refine hK27 _ _ ?_
          clear hK27 K27
          refine wp_seq_k (fun K28 hK28 => ?_)
          refine c_false H rfl ?_
          refine wp_exit ?_
          refine t_exit ?_
          refine t_exit ?_
          refine b_hit ?_
          clear hK28 K28
          refine hK25 _ _ ?_
          clear hK25 K25
          refine wp_seq_k (fun K29 hK29 => ?_)
          refine e_region (fun R hR => ?_)
          refine e_op H rfl rfl (by decide) (x_move H rfl rfl) ?_
          clear H a; intro a H
          refine e_callq H rfl rfl (by decide) rfl rfl (Try.call69 _) (records_nil w) ?_
          clear H a
          rintro e wb ⟨rfl, hww⟩
          obtain rfl : w = wb := hww.symm
          refine ⟨_, rfl, fun a H => ?_⟩
          refine e_op H rfl rfl (by decide) (x_assign H rfl rfl) ?_
          clear H a; intro a H
          refine e_nil (hR.out _ _ ?_)
          clear hR R
          refine hK29 _ _ ?_
          clear hK29 K29
          refine wp_seq_k (fun K30 hK30 => ?_)
          refine wp_seq_k (fun K31 hK31 => ?_)
          refine e_region (fun R hR => ?_)
          refine e_op H rfl rfl (by decide) (x_move H rfl rfl) ?_
          clear H a; intro a H
          refine e_op H rfl rfl (by decide) (x_builtin H rfl rfl (fun cs => len_sl under84)) ?_
          clear H a; intro a H
          refine e_op H rfl rfl (by decide) (x_move H rfl rfl) ?_
          clear H a; intro a H
          refine e_nil (hR.out _ _ ?_)
          clear hR R
          refine hK31 _ _ ?_
          clear hK31 K31
          refine wp_block ?_
          refine wp_loop_ghost (fun n a w => n = 0 ∧ Has a 181 [(138, .int .i64 0), (139, .int .i64 0)] ∧ Ext w0 w) (0) ?_ ?_
          · skip
            exact ⟨rfl, H.sub ⟨rfl, rfl, trivial⟩, E⟩
          · skip
            clear H E
            intro n a w hI
            obtain ⟨rfl, H, E⟩ := hI
            skip
            refine wp_seq_k (fun K32 hK32 => ?_)
            refine e_region (fun R hR => ?_)
            refine e_op H rfl rfl (by decide) (x_binI H rfl rfl rfl (b_lss (b := false) (rfl))) ?_
            clear H a; intro a H
            refine e_nil (hR.out _ _ ?_)
            clear hR R
            refine hK32 _ _ ?_
            clear hK32 K32
            refine wp_seq_k (fun K33 hK33 => ?_)
            refine c_false H rfl ?_
            refine wp_exit ?_
            refine t_exit ?_
            refine t_exit ?_
            refine b_hit ?_
            clear hK33 K33
            refine hK30 _ _ ?_
            clear hK30 K30
            refine wp_seq_k (fun K34 hK34 => ?_)
            refine e_region (fun R hR => ?_)
            refine e_op H rfl rfl (by decide) (x_assign H rfl rfl) ?_
            clear H a; intro a H
            refine e_nil (hR.out _ _ ?_)
            clear hR R
            refine hK34 _ _ ?_
            clear hK34 K34
            refine wp_seq_k (fun K35 hK35 => ?_)
            refine e_region (fun R hR => ?_)
            refine e_op H rfl rfl (by decide) (x_move H rfl rfl) ?_
            clear H a; intro a H
            refine e_callq H rfl rfl (by decide) rfl rfl (Try.call96 _) (entry_any 0 [] none 0 0 w) ?_
            clear H a
            rintro e wy ⟨rfl, Fy⟩
            refine ⟨_, rfl, fun a H => ?_⟩
            refine e_callq H rfl rfl (by decide) rfl rfl (Try.call68 _) (put_nil (entR 0 []) (.slice none 0 0) wy) ?_
            clear H a
            rintro e wz ⟨rfl, Fz⟩
            refine ⟨_, rfl, fun a H => ?_⟩
            have EZ := (E.tr Fy).tr Fz
            refine e_op H rfl rfl (by decide) (x_move H rfl rfl) ?_
            clear H a; intro a H
            refine e_op H rfl rfl (by decide) (x_ext0 H rfl rfl) ?_
            clear H a; intro a H
            refine e_op H rfl rfl (by decide) (x_ext1 H rfl rfl) ?_
            clear H a; intro a H
            refine e_op H rfl rfl (by decide) (x_assign H rfl rfl) ?_
            clear H a; intro a H
            refine e_nil (hR.out _ _ ?_)
            clear hR R
            refine hK35 _ _ ?_
            clear hK35 K35
            refine wp_seq_k (fun K36 hK36 => ?_)
            refine e_region (fun R hR => ?_)
            refine e_op H rfl rfl (by decide) (x_move H rfl rfl) ?_
            clear H a; intro a H
            refine e_op H rfl rfl (by decide) (x_binI H rfl rfl rfl (b_eql (b := true) (rfl))) ?_
            clear H a; intro a H
            refine e_op H rfl rfl (by decide) (x_move H rfl rfl) ?_
            clear H a; intro a H
            refine e_opg H (wanted_true H rfl rfl rfl rfl) rfl (by decide) (x_move H rfl rfl) ?_
            clear H a; intro a H
            refine e_callqg H (wanted_true H rfl rfl rfl rfl) rfl (by decide) rfl rfl (Try.call69 _) (records_nil wz) ?_
            clear H a
            rintro e w9 ⟨rfl, hw9⟩
            obtain rfl : wz = w9 := hw9.symm
            refine ⟨_, rfl, fun a H => ?_⟩
            refine e_opg H (wanted_true H rfl rfl rfl rfl) rfl (by decide) (x_builtin H rfl rfl (fun cs => len_sl under84)) ?_
            clear H a; intro a H
            refine e_opg H (wanted_true H rfl rfl rfl rfl) rfl (by decide) (x_move H rfl rfl) ?_
            clear H a; intro a H
            refine e_callqg H (wanted_true H rfl rfl rfl rfl) rfl (by decide) rfl rfl (Try.call87 _) (rlen_nil wz) ?_
            clear H a
            rintro e w9 ⟨rfl, hw9⟩
            obtain rfl : wz = w9 := hw9.symm
            refine ⟨_, rfl, fun a H => ?_⟩
            refine e_opg H (wanted_true H rfl rfl rfl rfl) rfl (by decide) (x_binI H rfl rfl rfl (b_add (z := 0) (rfl))) ?_
            clear H a; intro a H
            refine e_opg H (wanted_true H rfl rfl rfl rfl) rfl (by decide) (x_move H rfl rfl) ?_
            clear H a; intro a H
            refine e_callqg H (wanted_true H rfl rfl rfl rfl) rfl (by decide) rfl rfl (Try.call93 _) (used_nil wz) ?_
            clear H a
            rintro e w9 ⟨rfl, hw9⟩
            obtain rfl : wz = w9 := hw9.symm
            refine ⟨_, rfl, fun a H => ?_⟩
            refine e_opg H (wanted_true H rfl rfl rfl rfl) rfl (by decide) (x_binI H rfl rfl rfl (b_add (z := 0) (rfl))) ?_
            clear H a; intro a H
            refine e_opg H (wanted_true H rfl rfl rfl rfl) rfl (by decide) (x_move H rfl rfl) ?_
            clear H a; intro a H
            refine e_callqg H (wanted_true H rfl rfl rfl rfl) rfl (by decide) rfl rfl (Try.call88 _) (lost_nil wz) ?_
            clear H a
            rintro e w9 ⟨rfl, hw9⟩
            obtain rfl : wz = w9 := hw9.symm
            refine ⟨_, rfl, fun a H => ?_⟩
            refine e_opg H (wanted_true H rfl rfl rfl rfl) rfl (by decide) (x_conv H rfl rfl (c_int (z := 0) Try.underlying56 Try.underlying3 (rfl))) ?_
            clear H a; intro a H
            refine e_opg H (wanted_true H rfl rfl rfl rfl) rfl (by decide) (x_binI H rfl rfl rfl (b_add (z := 0) (rfl))) ?_
            clear H a; intro a H
            refine e_opg H (wanted_true H rfl rfl rfl rfl) rfl (by decide) (x_move H rfl rfl) ?_
            clear H a; intro a H
            refine e_callqg H (wanted_true H rfl rfl rfl rfl) rfl (by decide) rfl rfl (Try.call71 _) (file_nil wz) ?_
            clear H a
            rintro e w9 ⟨rfl, hw9⟩
            obtain rfl : wz = w9 := hw9.symm
            refine ⟨_, rfl, fun a H => ?_⟩
            refine e_opg H (wanted_true H rfl rfl rfl rfl) rfl (by decide) (x_builtin H rfl rfl (fun cs => len_sl Try.underlying22)) ?_
            clear H a; intro a H
            refine e_opg H (wanted_true H rfl rfl rfl rfl) rfl (by decide) (x_binI H rfl rfl rfl (b_add (z := 0) (rfl))) ?_
            clear H a; intro a H
            refine e_opg H (wanted_true H rfl rfl rfl rfl) rfl (by decide) (x_binI H rfl rfl rfl (b_eql (b := true) (rfl))) ?_
            clear H a; intro a H
            refine e_op H rfl rfl (by decide) (x_pickT H rfl rfl rfl) ?_
            clear H a; intro a H
            refine e_op H rfl rfl (by decide) (x_assign H rfl rfl) ?_
            clear H a; intro a H
            refine e_nil (hR.out _ _ ?_)
            clear hR R
            refine hK36 _ _ ?_
            clear hK36 K36
            refine wp_ret ?_
            exact ret1 H rfl rfl ⟨rfl, EZ⟩
      · skip
        by_cases hg : x.good = true
        · skip
          rw [hg] at H
          refine c_false H rfl ?_
          refine wp_skip ?_
          exact ⟨rfl, H.sub ⟨rfl, rfl, rfl, trivial⟩, E⟩
        · skip
          simp only [Bool.not_eq_true] at hg
          rw [hg] at H
          refine c_true H rfl ?_
          refine wp_seq_k (fun K37 hK37 => ?_)
          refine e_region (fun R hR => ?_)
          refine e_op H rfl rfl (by decide) (x_move H rfl rfl) ?_
          clear H a; intro a H
          refine e_op H rfl rfl (by decide) (x_load H rfl rfl (ld_rec T5 hx.words)) ?_
          clear H a; intro a H
          refine e_callq H rfl rfl (by decide) rfl rfl (Try.call68 _) (put_nil x _ _) ?_
          clear H a
          rintro e we ⟨rfl, Fe⟩
          refine ⟨_, rfl, fun a H => ?_⟩
          replace T5 := T5.ext Fe
          replace E := E.tr Fe
          refine e_op H rfl rfl (by decide) (x_move H rfl rfl) ?_
          clear H a; intro a H
          refine e_op H rfl rfl (by decide) (x_ext0 H rfl rfl) ?_
          clear H a; intro a H
          refine e_op H rfl rfl (by decide) (x_ext1 H rfl rfl) ?_
          clear H a; intro a H
          refine e_op H rfl rfl (by decide) (x_assign H rfl rfl) ?_
          clear H a; intro a H
          refine e_nil (hR.out _ _ ?_)
          clear hR R
          refine hK37 _ _ ?_
          clear hK37 K37
          refine wp_seq_k (fun K38 hK38 => ?_)
          refine e_region (fun R hR => ?_)
          refine e_op H rfl rfl (by decide) (x_move H rfl rfl) ?_
          clear H a; intro a H
          refine e_op H rfl rfl (by decide) (x_binI H rfl rfl rfl (b_neq (b := false) (rfl))) ?_
          clear H a; intro a H
          refine e_nil (hR.out _ _ ?_)
          clear hR R
          refine hK38 _ _ ?_
          clear hK38 K38
          refine c_false H rfl ?_
          refine wp_skip ?_
          exact ⟨rfl, H.sub ⟨rfl, rfl, rfl, trivial⟩, E⟩
theorem ringErrs_any (cap : Int) (comp first : Nat) (pa : Option Addr) (len pc : Nat) (ss : List RStep) (x : Rcd) (u : Value) (w0 : World) (hr : Rt w0 pa len ss) (hc2 : cap ≤ 9223372036854775807) (hc : comp ≤ 255) (hf : first ≤ 4294967295) (hlen : len ≤ 8796093021952) (hx : x.ok) (hu : Zl w0 u x.ev.args) :
    Calls Try.prog 26 #[.int .i64 cap, .agg (plCells comp first (.slice pa len pc)).toArray, .agg (x.cells u).toArray] w0 fun e w' => e = .returned (.bool true) ∧ Ext w0 w' := by
  have hu2 := hu
  obtain ⟨ua, un, uc, rfl, _⟩ := hu2
  by_cases h : 1 ≤ cap
  · exact ringErrs1 cap comp first pa len pc ss x ua un uc w0 hr hc2 hc hf hlen hx hu h
  · exact ringErrs0 cap comp first pa len pc ss x ua un uc w0 hr hc2 hc hf hlen hx hu h
end Go.Proofs.Ytknllmcpogoeoaa
