/- RingNewest, walked. -/
import Derived.Test.YtknllmcpogoeoaaR16
import Derived.Test.YtknllmcpogoeoaaR17
namespace Go.Proofs.Ytknllmcpogoeoaa
open Go.RowKit
set_option linter.unusedVariables false
set_option linter.unusedSimpArgs false
set_option maxRecDepth 100000
theorem fed_chain {first : Nat} {era : Int} {done : List Rcd} {d : Nat} {r : Rg} (F : Fed first era done d r) (hf : first < 18446744073709551616) {m : Nat} (hm : chain first done m) : chain first r.records m := by
  have hl := fed_lost F hf
  have hp := chain_pos done first m d hm
  rw [← F.list] at hp
  have hge : first ≤ posOf first done d := by unfold posOf; omega
  unfold Rg.records
  by_cases h0 : 0 < r.lost
  · rw [if_pos h0]
    have hd : done ≠ [] := by rintro rfl; simp [posOf] at hl; omega
    refine ⟨F.fst hd, ?_⟩
    rw [show first + (markR r).step = posOf first done d by unfold Rcd.step markR; simp only; omega]
    exact hp
  · rw [if_neg h0, show first = posOf first done d by omega]
    exact hp
theorem chain_last : ∀ (l : List Rcd) (n m : Nat) (x : Rcd), chain n (l ++ [x]) m → m = x.idx + x.step
  | [], n, m, x, h => by obtain ⟨h1, h2⟩ := h; simp only [chain] at h2; omega
  | y :: r, n, m, x, h => chain_last r _ m x h.2
theorem tail_same {α : Type} (a b l : List α) (k : Nat) (h : k < l.length) : (a ++ l)[(a ++ l).length - 1 - k]? = (b ++ l)[(b ++ l).length - 1 - k]? := by
  rw [List.getElem?_append_right (by rw [List.length_append]; omega), List.getElem?_append_right (by rw [List.length_append]; omega), List.length_append, List.length_append]
  congr 1
  omega
/-- a whole good play has an end -/
theorem good_end (comp first : Nat) (ss : List RStep) (hf : first ≤ 4294967295) (hok : ∀ s ∈ ss, s.ok) : ∃ m, chain first (goodOf comp first ss) m ∧ m < 9223372036854775808 := by
  rcases List.eq_nil_or_concat (goodOf comp first ss) with h | ⟨l, x, h⟩
  · rw [h]; exact ⟨first, rfl, by omega⟩
  · have hx : (goodOf comp first ss)[l.length]? = some x := by rw [h]; simp
    obtain ⟨_, m, h1, h2, h3⟩ := good_row comp first ss hf hok l.length x hx
    have ht : (goodOf comp first ss).take l.length = l := by rw [h]; simp
    rw [ht] at h1
    rw [h, List.concat_eq_append]
    exact ⟨_, chain_app l first m x h1 h2, h3⟩
theorem ringNewest_any (ca comp first : Nat) (pa : Option Addr) (len pc : Nat) (ss : List RStep) (w0 : World) (hr : Rt w0 pa len ss) (ha : ca ≤ 65535) (hc : comp ≤ 255) (hf : first ≤ 4294967295) (hlen : len ≤ 8796093021952) :
    Calls Try.prog 24 #[.int .u16 (ca : Int), .agg (plCells comp first (.slice pa len pc)).toArray] w0 fun e w' => e = .returned (.bool true) ∧ Ext w0 w' := by
  have hss : ∀ s ∈ ss, s.ok := fun s hs => by
    obtain ⟨k, hk⟩ := List.getElem?_of_mem hs
    exact (hr.cell k s hk).1
  refine calls_has (args := [.int .u16 (ca : Int), .agg (plCells comp first (.slice pa len pc)).toArray]) Try.func24 rfl Try.ntmps24 (Nat.le_of_ble_eq_true rfl) (fun a H => ?_)
  simp only [argl, Nat.reduceAdd] at H
  refine wp_seq_k (fun K1 hK1 => ?_)
  refine e_region (fun R hR => ?_)
  refine e_op H rfl rfl (by decide) (x_box H rfl rfl bx_new) ?_
  clear H a; intro a H
  have B1 := Blk.new w0 80 (plCells comp first (.slice pa len pc))
  have E1 := (Ext.refl w0).al (.cells (plCells comp first (.slice pa len pc)).toArray 80)
  obtain ⟨g1, hg1⟩ : ∃ g, g = w0.heap.size := ⟨_, rfl⟩
  rw [← hg1] at H B1
  generalize w0.alloc (.cells (plCells comp first (.slice pa len pc)).toArray 80) = w1 at *
  refine e_op H rfl rfl (by decide) (x_assign H rfl rfl) ?_
  clear H a; intro a H
  refine e_nil (hR.out _ _ ?_)
  clear hR R
  refine hK1 _ _ ?_
  clear hK1 K1
  refine wp_seq_k (fun K2 hK2 => ?_)
  refine wp_seq_k (fun K3 hK3 => ?_)
  refine e_region (fun R hR => ?_)
  refine e_callq H rfl rfl (by decide) rfl rfl (Try.call65 _) (rawake_any w1) ?_
  clear H a
  rintro e w2 ⟨rfl, F2⟩
  refine ⟨_, rfl, fun a H => ?_⟩
  have E2 := E1.tr F2
  have B2 := B1.ext F2
  refine e_op H rfl rfl (by decide) (x_un H rfl rfl (u_not (c := false) (rfl))) ?_
  clear H a; intro a H
  refine e_nil (hR.out _ _ ?_)
  clear hR R
  refine hK3 _ _ ?_
  clear hK3 K3
  refine c_false H rfl ?_
  refine wp_skip ?_
  refine hK2 _ _ ?_
  clear hK2 K2
  refine wp_seq_k (fun K4 hK4 => ?_)
  refine e_region (fun R hR => ?_)
  refine e_op H rfl rfl (by decide) (x_move H rfl rfl) ?_
  clear H a; intro a H
  refine e_op H rfl rfl (by decide) (x_binI H rfl rfl rfl (b_rem (z := ((ca % 300 : Nat) : Int)) (by decide) (by rw [Int.tmod_eq_emod_of_nonneg (by omega)]; omega))) ?_
  clear H a; intro a H
  refine e_op H rfl rfl (by decide) (x_conv H rfl rfl (c_int (z := ((ca % 300 : Nat) : Int)) Try.underlying47 Try.underlying3 (by rw [IntKind.wrap_i64]; omega))) ?_
  clear H a; intro a H
  refine e_op H rfl rfl (by decide) (x_binI H rfl rfl rfl (b_add (z := (1 + ((ca % 300 : Nat) : Int))) (by rw [IntKind.wrap_i64]; omega))) ?_
  clear H a; intro a H
  refine e_callq H rfl rfl (by decide) rfl rfl (Try.call66 _) (newRn (1 + ((ca % 300 : Nat) : Int)) w2 (by omega) (by omega) w0.heap.size E2.sz) ?_
  clear H a
  rintro e w3 ⟨gr, rfl, Rr, F3, hgr⟩
  refine ⟨_, rfl, fun a H => ?_⟩
  have E3 := E2.tr F3
  have hg1r : g1 ≠ gr := by have := B2.lt; omega
  have B3 := B2.ext F3
  refine e_op H rfl rfl (by decide) (x_move H rfl rfl) ?_
  clear H a; intro a H
  refine e_op H rfl rfl (by decide) (x_ext0 H rfl rfl) ?_
  clear H a; intro a H
  refine e_op H rfl rfl (by decide) (x_ext1 H rfl rfl) ?_
  clear H a; intro a H
  refine e_op H rfl rfl (by decide) (x_assign H rfl rfl) ?_
  clear H a; intro a H
  refine e_op H rfl rfl (by decide) (x_assign H rfl rfl) ?_
  clear H a; intro a H
  refine e_nil (hR.out _ _ ?_)
  clear hR R
  refine hK4 _ _ ?_
  clear hK4 K4
  refine wp_seq_k (fun K5 hK5 => ?_)
  refine wp_seq_k (fun K6 hK6 => ?_)
  refine e_region (fun R hR => ?_)
  refine e_op H rfl rfl (by decide) (x_move H rfl rfl) ?_
  clear H a; intro a H
  refine e_op H rfl rfl (by decide) (x_binI H rfl rfl rfl (b_neq (b := false) (rfl))) ?_
  clear H a; intro a H
  refine e_op H rfl rfl (by decide) (x_move H rfl rfl) ?_
  clear H a; intro a H
  refine e_opg H (wanted_true H rfl rfl rfl rfl) rfl (by decide) (x_move H rfl rfl) ?_
  clear H a; intro a H
  refine e_opg H (wanted_true H rfl rfl rfl rfl) rfl (by decide) (x_bin H rfl rfl rfl (by rw [eqGuard_at_pointer]; rfl) (b_pnil (c := false) under81 rfl)) ?_
  clear H a; intro a H
  refine e_op H rfl rfl (by decide) (x_pickF H rfl rfl rfl) ?_
  clear H a; intro a H
  refine e_nil (hR.out _ _ ?_)
  clear hR R
  refine hK6 _ _ ?_
  clear hK6 K6
  refine c_false H rfl ?_
  refine wp_skip ?_
  refine hK5 _ _ ?_
  clear hK5 K5
  refine wp_seq_k (fun K7 hK7 => ?_)
  refine e_region (fun R hR => ?_)
  refine e_op H rfl rfl (by decide) (x_load H rfl rfl (l_part (cs := plCells comp first (.slice pa len pc)) isAgg80 size80 (fun j v hv => by rw [B3.cell, Nat.zero_add]; exact hv))) ?_
  clear H a; intro a H
  refine e_callq H rfl rfl (by decide) rfl rfl (Try.call67 _) (goodP_any comp first pa len pc ss w3 (hr.ext E3) hc hf hlen) ?_
  clear H a
  rintro e w5 ⟨vq, qs, rfl, RL, hqs, F5⟩
  refine ⟨_, rfl, fun a H => ?_⟩
  have E5 := E3.tr F5
  replace RL := RL.mono E3.sz
  replace Rr := Rr.ext F5
  have B5 := B3.ext F5
  obtain ⟨qa, qc, rfl, _⟩ := RL.row.shape
  obtain ⟨hs, hhs⟩ : ∃ n, n = w5.heap.size := ⟨_, rfl⟩
  have hg1s : g1 < hs := by have := B5.lt; omega
  have hqold : ∀ k, (Value.slice qa qs.length qc).ownBlock = some k → k < hs := fun k hk => by have := (RL.row.blk k hk).2.1; omega
  have hQL : qs.length = (goodOf comp first ss).length := by have := congrArg List.length hqs; rwa [List.length_map] at this
  have hql : qs.length ≤ 40 := by rw [hQL]; exact good_len _ _ _
  refine e_op H rfl rfl (by decide) (x_assign H rfl rfl) ?_
  clear H a; intro a H
  refine e_nil (hR.out _ _ ?_)
  clear hR R
  refine hK7 _ _ ?_
  clear hK7 K7
  refine wp_seq_k (fun K8 hK8 => ?_)
  refine e_region (fun R hR => ?_)
  refine e_op H rfl rfl (by decide) (x_assign H rfl rfl) ?_
  clear H a; intro a H
  refine e_nil (hR.out _ _ ?_)
  clear hR R
  refine hK8 _ _ ?_
  clear hK8 K8
  refine wp_seq_k (fun K9 hK9 => ?_)
  refine wp_seq_k (fun K10 hK10 => ?_)
  refine e_region (fun R hR => ?_)
  refine e_op H rfl rfl (by decide) (x_move H rfl rfl) ?_
  clear H a; intro a H
  refine e_op H rfl rfl (by decide) (x_builtin H rfl rfl (fun cs => len_sl under84)) ?_
  clear H a; intro a H
  refine e_op H rfl rfl (by decide) (x_move H rfl rfl) ?_
  clear H a; intro a H
  refine e_nil (hR.out _ _ ?_)
  clear hR R
  refine hK10 _ _ ?_
  clear hK10 K10
  refine wp_block ?_
  refine wp_loop_ghost (fun n a w => ∃ i vr psr r d, i ≤ qs.length ∧ n = qs.length - i ∧ Has a 139 [(3, .pointer (some ⟨g1, 0, none⟩)), (5, .pointer (some ⟨gr, 0, none⟩)), (7, .slice qa qs.length qc), (8, .int .i64 ((d : Nat) : Int)), (36, .slice qa qs.length qc), (37, .int .i64 ((qs.length : Nat) : Int)), (38, .int .i64 (i : Int))] ∧ Blk w g1 80 (plCells comp first (.slice pa len pc)) ∧ Rn w w0.heap.size gr vr psr r ∧ Rl w w0.heap.size (.slice qa qs.length qc) qs ∧ (∀ k, vr.ownBlock = some k → hs ≤ k) ∧ Fed first ((comp % 8 : Nat) : Int) ((goodOf comp first ss).take i) d r ∧ hs ≤ w.heap.size ∧ Ext w0 w) (qs.length) ?_ ?_
  · skip
    exact ⟨0, .slice none 0 0, [], _, 0, by omega, rfl, H.sub ⟨rfl, rfl, rfl, rfl, rfl, rfl, rfl, trivial⟩, B5, Rr, RL, (fun k hk => by cases hk), fed_nil _ _ _ (by omega), by omega, E5⟩
  · skip
    clear H Rr RL E5 B5
    intro n a w hI
    obtain ⟨i, vr, psr, r, d, hi, rfl, H, B1, Rr, RL, sep1, Fr, hhw, E⟩ := hI
    rcases (show i < qs.length ∨ i = qs.length by omega) with hlt | hie
    · skip
      obtain ⟨⟨y, uy⟩, hp⟩ : ∃ p, qs[i]? = some p := ⟨_, List.getElem?_eq_getElem hlt⟩
      obtain ⟨gq, oq, hqa, hcl, hok, hzp, _⟩ := RL.at_ i (y, uy) hp
      subst hqa
      have hld := ld_elem RL i (y, uy) hp
      simp only at hok hzp hld
      obtain ⟨ua, uc, rfl, _⟩ := (Sr.of hzp.1).shape
      have hLi : (goodOf comp first ss)[i]? = some y := by rw [← hqs, List.getElem?_map, hp]; rfl
      obtain ⟨hfy, m, hm, hxi, hmb⟩ := good_row comp first ss hf hss i y hLi
      have hw3n : y.what ≠ 3 := by rcases hfy.what with h | h <;> omega
      have htk : (goodOf comp first ss).take (i + 1) = (goodOf comp first ss).take i ++ [y] := by rw [List.take_add_one, hLi]; rfl
      obtain ⟨hcr, Fr'⟩ := fed_put Fr hfy hm hxi (by omega)
      obtain ⟨kd, hkd⟩ : ∃ k, k = (dropR r.cap (r.used + y.size) (r.list ++ [y])).1 := ⟨_, rfl⟩
      rw [← hkd] at Fr'
      have hdl := Fr'.dle
      rw [List.length_append, List.length_take] at hdl
      simp only [List.length_cons, List.length_nil] at hdl
      have hpr : psr.length ≤ 1000000 := by have := congrArg List.length Rr.eq; rw [List.length_map, Fr.list, List.length_drop, List.length_take] at this; omega
      refine wp_seq_k (fun K11 hK11 => ?_)
      refine e_region (fun R hR => ?_)
      refine e_op H rfl rfl (by decide) (x_binI H rfl rfl rfl (b_lss (b := true) (dec_t (by omega)))) ?_
      clear H a; intro a H
      refine e_nil (hR.out _ _ ?_)
      clear hR R
      refine hK11 _ _ ?_
      clear hK11 K11
      refine wp_seq_k (fun K12 hK12 => ?_)
      refine c_true H rfl ?_
      refine wp_skip ?_
      refine hK12 _ _ ?_
      clear hK12 K12
      refine wp_seq_k (fun K13 hK13 => ?_)
      refine wp_block ?_
      refine wp_seq_k (fun K14 hK14 => ?_)
      refine e_region (fun R hR => ?_)
      refine e_op H rfl rfl (by decide) (x_indexAddr H rfl rfl rfl (i_slN (m := i) under84 size95 rfl hlt)) ?_
      clear H a; intro a H
      refine e_op H rfl rfl (by decide) (x_load H rfl rfl hld) ?_
      clear H a; intro a H
      refine e_op H rfl rfl (by decide) (x_alloc H rfl (al_new (z95 _))) ?_
      clear H a; intro a H
      refine e_st H rfl rfl (x_store H rfl rfl rfl (st_row (Blk.new w 95 zero95) (by rw [info95]; simp [Rcd.cells_len _ _ hok.words]) (by simp [Rcd.cells_len _ _ hok.words, zero95]) (by rw [Array.all_eq_true']; intro z hz; exact cells_one y ua y.ev.args.length uc z (by simpa using hz)))) ?_
      obtain ⟨T, Ex⟩ := copy_rec w y (.slice ua y.ev.args.length uc) hok.words
      obtain ⟨gx, hgx⟩ : ∃ g, g = w.heap.size := ⟨_, rfl⟩
      rw [← hgx] at H T Ex
      rw [← hgx]
      generalize (w.alloc (.cells zero95.toArray 95)).setRow gx (y.cells (.slice ua y.ev.args.length uc)).toArray = wa at *
      have hgxw : gx = w.heap.size := hgx
      have lr := Rr.blk.lt
      have lvr : ∀ k, vr.ownBlock = some k → k < w.heap.size := fun k hk => (Rr.lst.row.blk k hk).2.1
      replace Rr := Rr.ext Ex
      replace RL := RL.ext Ex
      replace B1 := B1.ext Ex
      replace hzp := hzp.ext Ex
      replace E := E.tr Ex
      have hwa := Ex.sz
      refine e_nil (hR.out _ _ ?_)
      clear hR R
      refine hK14 _ _ ?_
      clear hK14 K14
      refine wp_seq_k (fun K15 hK15 => ?_)
      refine e_region (fun R hR => ?_)
      refine e_op H rfl rfl (by decide) (x_move H rfl rfl) ?_
      clear H a; intro a H
      refine e_op H rfl rfl (by decide) (x_load H rfl rfl (ld_rec T hok.words)) ?_
      clear H a; intro a H
      refine e_callq H rfl rfl (by decide) rfl rfl (Try.call68 _) (put_ok w0.heap.size gr vr psr r y wa Rr hok ua y.ev.args.length uc (hzp.mono (Nat.zero_le _)) hfy.good hw3n (fed_beg Fr hfy hm hxi) hpr E.sz) ?_
      clear H a
      rintro e wb ⟨vr2, psr2, rfl, Rr2, FF, hown⟩
      refine ⟨_, rfl, fun a H => ?_⟩
      rw [(put_of hcr).1] at Rr2
      rw [(put_of hcr).2, ← hkd] at H
      dsimp only at H
      replace RL := RL.frm FF (Rl.apart Rr RL (fun k hk e => by have := hqold k hk; have := sep1 k e; omega)) Rr.no2
      replace B1 := B1.frm FF (by
        intro h
        rcases List.mem_cons.1 h with h | h
        · exact hg1r h
        · have := sep1 g1 (by simpa using h); omega)
      replace E := putExt E Rr FF
      have hwb := FF.size
      clear FF Rr T hzp
      refine e_op H rfl rfl (by decide) (x_move H rfl rfl) ?_
      clear H a; intro a H
      refine e_op H rfl rfl (by decide) (x_ext0 H rfl rfl) ?_
      clear H a; intro a H
      refine e_op H rfl rfl (by decide) (x_ext1 H rfl rfl) ?_
      clear H a; intro a H
      refine e_op H rfl rfl (by decide) (x_assign H rfl rfl) ?_
      clear H a; intro a H
      refine e_op H rfl rfl (by decide) (x_assign H rfl rfl) ?_
      clear H a; intro a H
      refine e_nil (hR.out _ _ ?_)
      clear hR R
      refine hK15 _ _ ?_
      clear hK15 K15
      refine wp_seq_k (fun K16 hK16 => ?_)
      refine wp_seq_k (fun K17 hK17 => ?_)
      refine e_region (fun R hR => ?_)
      refine e_op H rfl rfl (by decide) (x_move H rfl rfl) ?_
      clear H a; intro a H
      refine e_op H rfl rfl (by decide) (x_binI H rfl rfl rfl (b_neq (b := false) (rfl))) ?_
      clear H a; intro a H
      refine e_nil (hR.out _ _ ?_)
      clear hR R
      refine hK17 _ _ ?_
      clear hK17 K17
      refine c_false H rfl ?_
      refine wp_skip ?_
      refine hK16 _ _ ?_
      clear hK16 K16
      refine e_region (fun R hR => ?_)
      refine e_op H rfl rfl (by decide) (x_move H rfl rfl) ?_
      clear H a; intro a H
      refine e_op H rfl rfl (by decide) (x_move H rfl rfl) ?_
      clear H a; intro a H
      refine e_op H rfl rfl (by decide) (x_binI H rfl rfl rfl (b_add (z := ((d + kd : Nat) : Int)) (by rw [IntKind.wrap_i64]; omega))) ?_
      clear H a; intro a H
      refine e_op H rfl rfl (by decide) (x_assign H rfl rfl) ?_
      clear H a; intro a H
      refine e_nil (hR.out _ _ ?_)
      clear hR R
      refine hK13 _ _ ?_
      clear hK13 K13
      refine e_region (fun R hR => ?_)
      refine e_op H rfl rfl (by decide) (x_binI H rfl rfl rfl (b_add (z := ((i + 1 : Nat) : Int)) (by rw [IntKind.wrap_i64]; omega))) ?_
      clear H a; intro a H
      refine e_op H rfl rfl (by decide) (x_move H rfl rfl) ?_
      clear H a; intro a H
      refine e_nil (hR.out _ _ ?_)
      clear hR R
      refine ⟨qs.length - (i + 1), by omega, i + 1, vr2, psr2, _, d + kd, by omega, rfl, H.sub ⟨rfl, rfl, rfl, rfl, rfl, rfl, rfl, trivial⟩, B1, Rr2, RL, ?_, by rw [htk]; exact Fr', by omega, E⟩
      intro k hk
      rcases hown with h | h | ⟨b, h, hb⟩
      · rw [h] at hk; cases hk
      · rw [h] at hk; exact sep1 k hk
      · rw [h] at hk; cases hk; omega
    · skip
      rw [List.take_of_length_le (by omega)] at Fr
      have hdle := Fr.dle
      refine wp_seq_k (fun K18 hK18 => ?_)
      refine e_region (fun R hR => ?_)
      refine e_op H rfl rfl (by decide) (x_binI H rfl rfl rfl (b_lss (b := false) (dec_f (by omega)))) ?_
      clear H a; intro a H
      refine e_nil (hR.out _ _ ?_)
      clear hR R
      refine hK18 _ _ ?_
      clear hK18 K18
      refine wp_seq_k (fun K19 hK19 => ?_)
      refine c_false H rfl ?_
      refine wp_exit ?_
      refine t_exit ?_
      refine t_exit ?_
      refine b_hit ?_
      clear hK19 K19
      refine hK9 _ _ ?_
      clear hK9 K9
      refine wp_seq_k (fun K20 hK20 => ?_)
      refine e_region (fun R hR => ?_)
      refine e_op H rfl rfl (by decide) (x_move H rfl rfl) ?_
      clear H a; intro a H
      refine e_callq H rfl rfl (by decide) rfl rfl (Try.call69 _) (records_any w0.heap.size gr vr psr r w Rr (by have := congrArg List.length Rr.eq; rw [List.length_map, Fr.list, List.length_drop] at this; omega)) ?_
      clear H a
      rintro e wb ⟨vk, ks, rfl, RK, hks, Fb⟩
      refine ⟨_, rfl, fun a H => ?_⟩
      replace RK := RK.mono E.sz
      replace RL := RL.ext Fb
      replace Rr := Rr.ext Fb
      replace B1 := B1.ext Fb
      replace E := E.tr Fb
      obtain ⟨ka, kc, rfl, _⟩ := RK.row.shape
      have hrl : r.list.length + d = qs.length := by rw [Fr.list, List.length_drop]; have := Fr.dle; omega
      have hkl : ks.length = r.records.length := by rw [← hks, List.length_map]
      have hkb : ks.length ≤ 41 := by rw [hkl, recs_eq, List.length_append]; unfold recs0; split <;> simp <;> omega
      obtain ⟨M, hM, hMb⟩ := good_end comp first ss hf hss
      have hch := fed_chain Fr (by omega) hM
      refine e_op H rfl rfl (by decide) (x_assign H rfl rfl) ?_
      clear H a; intro a H
      refine e_nil (hR.out _ _ ?_)
      clear hR R
      refine hK20 _ _ ?_
      clear hK20 K20
      refine wp_seq_k (fun K21 hK21 => ?_)
      refine wp_seq_k (fun K22 hK22 => ?_)
      refine e_region (fun R hR => ?_)
      refine e_op H rfl rfl (by decide) (x_move H rfl rfl) ?_
      clear H a; intro a H
      refine e_callq H rfl rfl (by decide) rfl rfl (Try.call87 _) (rlen_any Rr) ?_
      clear H a
      rintro e w9 ⟨rfl, rfl⟩
      refine ⟨_, rfl, fun a H => ?_⟩
      refine e_op H rfl rfl (by decide) (x_move H rfl rfl) ?_
      clear H a; intro a H
      refine e_op H rfl rfl (by decide) (x_binI H rfl rfl rfl (b_add (z := ((r.list.length + d : Nat) : Int)) (by rw [IntKind.wrap_i64]; omega))) ?_
      clear H a; intro a H
      refine e_op H rfl rfl (by decide) (x_move H rfl rfl) ?_
      clear H a; intro a H
      refine e_op H rfl rfl (by decide) (x_builtin H rfl rfl (fun cs => len_sl under84)) ?_
      clear H a; intro a H
      refine e_op H rfl rfl (by decide) (x_binI H rfl rfl rfl (b_neq (b := false) (bne_f (by omega)))) ?_
      clear H a; intro a H
      refine e_nil (hR.out _ _ ?_)
      clear hR R
      refine hK22 _ _ ?_
      clear hK22 K22
      refine c_false H rfl ?_
      refine wp_skip ?_
      refine hK21 _ _ ?_
      clear hK21 K21
      refine wp_seq_k (fun K23 hK23 => ?_)
      refine e_region (fun R hR => ?_)
      refine e_op H rfl rfl (by decide) (x_fieldAddr H rfl rfl (fa80_1 _ _)) ?_
      clear H a; intro a H
      refine e_op H rfl rfl (by decide) (x_load H rfl rfl (l_cell Try.isAgg52 (B1.at_ (i := 1) rfl))) ?_
      clear H a; intro a H
      refine e_op H rfl rfl (by decide) (x_conv H rfl rfl (c_int (z := ((first : Nat) : Int)) Try.underlying52 Try.underlying56 (by rw [IntKind.wrap_u64]; omega))) ?_
      clear H a; intro a H
      refine e_op H rfl rfl (by decide) (x_assign H rfl rfl) ?_
      clear H a; intro a H
      refine e_nil (hR.out _ _ ?_)
      clear hR R
      refine hK23 _ _ ?_
      clear hK23 K23
      refine wp_seq_k (fun K24 hK24 => ?_)
      refine wp_seq_k (fun K25 hK25 => ?_)
      refine e_region (fun R hR => ?_)
      refine e_op H rfl rfl (by decide) (x_move H rfl rfl) ?_
      clear H a; intro a H
      refine e_op H rfl rfl (by decide) (x_builtin H rfl rfl (fun cs => len_sl under84)) ?_
      clear H a; intro a H
      refine e_op H rfl rfl (by decide) (x_move H rfl rfl) ?_
      clear H a; intro a H
      refine e_nil (hR.out _ _ ?_)
      clear hR R
      refine hK25 _ _ ?_
      clear hK25 K25
      refine wp_block ?_
      refine wp_loop_ghost (fun n a w => ∃ j nx, j ≤ ks.length ∧ n = ks.length - j ∧ Has a 139 [(5, .pointer (some ⟨gr, 0, none⟩)), (7, .slice qa qs.length qc), (13, .slice ka ks.length kc), (14, .int .u64 ((nx : Nat) : Int)), (66, .slice ka ks.length kc), (67, .int .i64 ((ks.length : Nat) : Int)), (68, .int .i64 (j : Int))] ∧ chain nx (r.records.drop j) M ∧ Rn w w0.heap.size gr vr psr r ∧ Rl w w0.heap.size (.slice qa qs.length qc) qs ∧ Rl w w0.heap.size (.slice ka ks.length kc) ks ∧ Ext w0 w) (ks.length) ?_ ?_
      · skip
        exact ⟨0, first, by omega, rfl, H.sub ⟨rfl, rfl, rfl, rfl, rfl, rfl, rfl, trivial⟩, by simpa using hch, Rr, RL, RK, E⟩
      · skip
        clear H RL RK E Rr B1
        intro n a w hI
        obtain ⟨j, nx, hj, rfl, H, hcj, Rr, RL, RK, E⟩ := hI
        rcases (show j < ks.length ∨ j = ks.length by omega) with hlt | rfl
        · skip
          obtain ⟨⟨y, uy⟩, hp⟩ : ∃ p, ks[j]? = some p := ⟨_, List.getElem?_eq_getElem hlt⟩
          obtain ⟨gq, oq, hqa, hcl, hok, hzp, _⟩ := RK.at_ j (y, uy) hp
          subst hqa
          have hld := ld_elem RK j (y, uy) hp
          simp only at hok hzp hld
          obtain ⟨ua, uc, rfl, _⟩ := (Sr.of hzp.1).shape
          have hdj : r.records.drop j = y :: r.records.drop (j + 1) := by
            have h : r.records[j]? = some y := by rw [← hks, List.getElem?_map, hp]; rfl
            obtain ⟨hl, e⟩ := List.getElem?_eq_some_iff.1 h
            rw [List.drop_eq_getElem_cons hl, e]
          rw [hdj] at hcj
          obtain ⟨hy1, hcj⟩ := hcj
          have hle := chain_le hcj
          refine wp_seq_k (fun K26 hK26 => ?_)
          refine e_region (fun R hR => ?_)
          refine e_op H rfl rfl (by decide) (x_binI H rfl rfl rfl (b_lss (b := true) (dec_t (by omega)))) ?_
          clear H a; intro a H
          refine e_nil (hR.out _ _ ?_)
          clear hR R
          refine hK26 _ _ ?_
          clear hK26 K26
          refine wp_seq_k (fun K27 hK27 => ?_)
          refine c_true H rfl ?_
          refine wp_skip ?_
          refine hK27 _ _ ?_
          clear hK27 K27
          refine wp_seq_k (fun K28 hK28 => ?_)
          refine wp_block ?_
          refine wp_seq_k (fun K29 hK29 => ?_)
          refine e_region (fun R hR => ?_)
          refine e_op H rfl rfl (by decide) (x_indexAddr H rfl rfl rfl (i_slN (m := j) under84 size95 rfl hlt)) ?_
          clear H a; intro a H
          refine e_op H rfl rfl (by decide) (x_load H rfl rfl hld) ?_
          clear H a; intro a H
          refine e_op H rfl rfl (by decide) (x_alloc H rfl (al_new (z95 _))) ?_
          clear H a; intro a H
          refine e_st H rfl rfl (x_store H rfl rfl rfl (st_row (Blk.new w 95 zero95) (by rw [info95]; simp [Rcd.cells_len _ _ hok.words]) (by simp [Rcd.cells_len _ _ hok.words, zero95]) (by rw [Array.all_eq_true']; intro z hz; exact cells_one y ua y.ev.args.length uc z (by simpa using hz)))) ?_
          obtain ⟨T, Ex⟩ := copy_rec w y (.slice ua y.ev.args.length uc) hok.words
          obtain ⟨gx, hgx⟩ : ∃ g, g = w.heap.size := ⟨_, rfl⟩
          rw [← hgx] at H T Ex
          rw [← hgx]
          generalize (w.alloc (.cells zero95.toArray 95)).setRow gx (y.cells (.slice ua y.ev.args.length uc)).toArray = wa at *
          replace Rr := Rr.ext Ex
          replace RL := RL.ext Ex
          replace RK := RK.ext Ex
          replace E := E.tr Ex
          refine e_nil (hR.out _ _ ?_)
          clear hR R
          refine hK29 _ _ ?_
          clear hK29 K29
          refine wp_seq_k (fun K30 hK30 => ?_)
          refine wp_seq_k (fun K31 hK31 => ?_)
          refine e_region (fun R hR => ?_)
          refine e_op H rfl rfl (by decide) (x_fieldAddr H rfl rfl (fa95_1 _ _)) ?_
          clear H a; intro a H
          refine e_op H rfl rfl (by decide) (x_load H rfl rfl (l_cell Try.isAgg56 (T.at_ (i := 1) rfl))) ?_
          clear H a; intro a H
          refine e_op H rfl rfl (by decide) (x_move H rfl rfl) ?_
          clear H a; intro a H
          refine e_op H rfl rfl (by decide) (x_binI H rfl rfl rfl (b_neq (b := false) (bne_f (by omega)))) ?_
          clear H a; intro a H
          refine e_nil (hR.out _ _ ?_)
          clear hR R
          refine hK31 _ _ ?_
          clear hK31 K31
          refine c_false H rfl ?_
          refine wp_skip ?_
          refine hK30 _ _ ?_
          clear hK30 K30
          refine e_region (fun R hR => ?_)
          refine e_op H rfl rfl (by decide) (x_move H rfl rfl) ?_
          clear H a; intro a H
          refine e_op H rfl rfl (by decide) (x_fieldAddr H rfl rfl (fa95_5 _ _)) ?_
          clear H a; intro a H
          refine e_op H rfl rfl (by decide) (x_load H rfl rfl (l_cell Try.isAgg56 (T.at_ (rc_lost hok.words)))) ?_
          clear H a; intro a H
          refine e_op H rfl rfl (by decide) (x_builtin H rfl rfl (fun cs => bi_max (z := ((y.step : Nat) : Int)) (max_step y))) ?_
          clear H a; intro a H
          refine e_op H rfl rfl (by decide) (x_binI H rfl rfl rfl (b_add (z := ((nx + y.step : Nat) : Int)) (by rw [IntKind.wrap_u64]; omega))) ?_
          clear H a; intro a H
          refine e_op H rfl rfl (by decide) (x_assign H rfl rfl) ?_
          clear H a; intro a H
          refine e_nil (hR.out _ _ ?_)
          clear hR R
          refine hK28 _ _ ?_
          clear hK28 K28
          refine e_region (fun R hR => ?_)
          refine e_op H rfl rfl (by decide) (x_binI H rfl rfl rfl (b_add (z := ((j + 1 : Nat) : Int)) (by rw [IntKind.wrap_i64]; omega))) ?_
          clear H a; intro a H
          refine e_op H rfl rfl (by decide) (x_move H rfl rfl) ?_
          clear H a; intro a H
          refine e_nil (hR.out _ _ ?_)
          clear hR R
          exact ⟨ks.length - (j + 1), by omega, j + 1, nx + y.step, by omega, rfl, H.sub ⟨rfl, rfl, rfl, rfl, rfl, rfl, rfl, trivial⟩, hcj, Rr, RL, RK, E⟩
        · skip
          skip
          refine wp_seq_k (fun K32 hK32 => ?_)
          refine e_region (fun R hR => ?_)
          refine e_op H rfl rfl (by decide) (x_binI H rfl rfl rfl (b_lss (b := false) (dec_f (by omega)))) ?_
          clear H a; intro a H
          refine e_nil (hR.out _ _ ?_)
          clear hR R
          refine hK32 _ _ ?_
          clear hK32 K32
          refine wp_seq_k (fun K33 hK33 => ?_)
          refine c_false H rfl ?_
          refine wp_exit ?_
          refine t_exit ?_
          refine t_exit ?_
          refine b_hit ?_
          clear hK33 K33
          refine hK24 _ _ ?_
          clear hK24 K24
          refine wp_seq_k (fun K34 hK34 => ?_)
          refine wp_seq_k (fun K35 hK35 => ?_)
          refine e_region (fun R hR => ?_)
          obtain rfl : M = nx := by symm; rw [List.drop_of_length_le (by omega)] at hcj; exact hcj
          refine e_op H rfl rfl (by decide) (x_move H rfl rfl) ?_
          clear H a; intro a H
          refine e_callq H rfl rfl (by decide) rfl rfl (Try.call87 _) (rlen_any Rr) ?_
          clear H a
          rintro e w9 ⟨rfl, rfl⟩
          refine ⟨_, rfl, fun a H => ?_⟩
          refine e_op H rfl rfl (by decide) (x_move H rfl rfl) ?_
          clear H a; intro a H
          refine e_nil (hR.out _ _ ?_)
          clear hR R
          refine hK35 _ _ ?_
          clear hK35 K35
          refine wp_block ?_
          refine wp_loop_ghost (fun n a w => ∃ j, j ≤ r.list.length ∧ n = r.list.length - j ∧ Has a 139 [(7, .slice qa qs.length qc), (13, .slice ka ks.length kc), (14, .int .u64 ((M : Nat) : Int)), (83, .int .i64 ((r.list.length : Nat) : Int)), (84, .int .i64 (j : Int))] ∧ Rl w w0.heap.size (.slice qa qs.length qc) qs ∧ Rl w w0.heap.size (.slice ka ks.length kc) ks ∧ Ext w0 w) (r.list.length) ?_ ?_
          · skip
            exact ⟨0, by omega, rfl, H.sub ⟨rfl, rfl, rfl, rfl, rfl, trivial⟩, RL, RK, E⟩
          · skip
            clear H RL RK E Rr
            intro n a w hI
            obtain ⟨j, hj, rfl, H, RL, RK, E⟩ := hI
            rcases (show j < r.list.length ∨ j = r.list.length by omega) with hlt | rfl
            · skip
              have hLq : (qs.map (·.1)) = (goodOf comp first ss).take d ++ r.list := by rw [hqs, Fr.list, List.take_append_drop]
              have hLk : (ks.map (·.1)) = recs0 r ++ r.list := by rw [hks, recs_eq]
              have hkr : r.list.length ≤ ks.length := by rw [hkl, recs_eq, List.length_append]; omega
              have hts := tail_same (recs0 r) ((goodOf comp first ss).take d) r.list j hlt
              rw [← hLq, ← hLk, List.length_map, List.length_map, List.getElem?_map, List.getElem?_map] at hts
              obtain ⟨⟨y, uy⟩, hp⟩ : ∃ p, ks[ks.length - 1 - j]? = some p := ⟨_, List.getElem?_eq_getElem (by omega)⟩
              obtain ⟨⟨z, uz⟩, hp2⟩ : ∃ p, qs[qs.length - 1 - j]? = some p := ⟨_, List.getElem?_eq_getElem (by omega)⟩
              rw [hp, hp2] at hts
              simp only [Option.map_some, Option.some.injEq] at hts
              subst hts
              obtain ⟨gk, ok, hka, _, hok, hzp, _⟩ := RK.at_ (ks.length - 1 - j) (y, uy) hp
              subst hka
              obtain ⟨gq, oq, hqa, _, _, hzq, _⟩ := RL.at_ (qs.length - 1 - j) (y, uz) hp2
              subst hqa
              simp only at hok hzp hzq
              refine wp_seq_k (fun K36 hK36 => ?_)
              refine e_region (fun R hR => ?_)
              refine e_op H rfl rfl (by decide) (x_binI H rfl rfl rfl (b_lss (b := true) (dec_t (by omega)))) ?_
              clear H a; intro a H
              refine e_nil (hR.out _ _ ?_)
              clear hR R
              refine hK36 _ _ ?_
              clear hK36 K36
              refine wp_seq_k (fun K37 hK37 => ?_)
              refine c_true H rfl ?_
              refine wp_skip ?_
              refine hK37 _ _ ?_
              clear hK37 K37
              refine wp_seq_k (fun K38 hK38 => ?_)
              refine wp_block ?_
              refine wp_seq_k (fun K39 hK39 => ?_)
              refine e_region (fun R hR => ?_)
              refine e_op H rfl rfl (by decide) (x_move H rfl rfl) ?_
              clear H a; intro a H
              refine e_op H rfl rfl (by decide) (x_assign H rfl rfl) ?_
              clear H a; intro a H
              refine e_nil (hR.out _ _ ?_)
              clear hR R
              refine hK39 _ _ ?_
              clear hK39 K39
              refine wp_seq_k (fun K40 hK40 => ?_)
              obtain ⟨wd, hwd⟩ : ∃ wx, wx = w.drew := ⟨_, rfl⟩
              have Ewd : Ext w wd := by rw [hwd]; exact (Ext.refl _).dr
              replace RL := RL.ext Ewd
              replace RK := RK.ext Ewd
              replace E := E.tr Ewd
              have RL0 := RL
              have RK0 := RK
              have FSq := Ext.refl wd
              replace hzp := hzp.ext Ewd
              replace hzq := hzq.ext Ewd
              refine g_start (fun w' => Ext wd w') (by kernel_rfl) (fun R hR => ?_)
              rw [← hwd]
              refine g_take 0 H rfl (wanted_none rfl) rfl (by decide) (by kernel_rfl) (by kernel_rfl) (by kernel_rfl) FSq (fun w' hSw => (x_move H rfl rfl)) ?_
              clear H a; intro a H
              refine g_take 1 H rfl (wanted_none rfl) rfl (by decide) (by kernel_rfl) (by kernel_rfl) (by kernel_rfl) FSq (fun w' hSw => (x_move H rfl rfl)) ?_
              clear H a; intro a H
              refine g_take 2 H rfl (wanted_none rfl) rfl (by decide) (by kernel_rfl) (by kernel_rfl) (by kernel_rfl) FSq (fun w' hSw => (x_builtin H rfl rfl (fun cs => len_sl under84))) ?_
              clear H a; intro a H
              refine g_take 3 H rfl (wanted_none rfl) rfl (by decide) (by kernel_rfl) (by kernel_rfl) (by kernel_rfl) FSq (fun w' hSw => (x_binI H rfl rfl rfl (b_sub (z := ((ks.length - 1 : Nat) : Int)) (by rw [IntKind.wrap_i64]; omega)))) ?_
              clear H a; intro a H
              refine g_take 4 H rfl (wanted_none rfl) rfl (by decide) (by kernel_rfl) (by kernel_rfl) (by kernel_rfl) FSq (fun w' hSw => (x_move H rfl rfl)) ?_
              clear H a; intro a H
              refine g_take 5 H rfl (wanted_none rfl) rfl (by decide) (by kernel_rfl) (by kernel_rfl) (by kernel_rfl) FSq (fun w' hSw => (x_binI H rfl rfl rfl (b_sub (z := ((ks.length - 1 - j : Nat) : Int)) (by rw [IntKind.wrap_i64]; omega)))) ?_
              clear H a; intro a H
              refine g_take 6 H rfl (wanted_none rfl) rfl (by decide) (by kernel_rfl) (by kernel_rfl) (by kernel_rfl) FSq (fun w' hSw => (x_indexAddr H rfl rfl rfl (i_slN (m := ks.length - 1 - j) under84 size95 rfl (by omega)))) ?_
              clear H a; intro a H
              refine g_take 7 H rfl (wanted_none rfl) rfl (by decide) (by kernel_rfl) (by kernel_rfl) (by kernel_rfl) FSq (fun w' hSw => (x_load H rfl rfl (ld_elem (RK0.ext hSw) _ (y, uy) hp))) ?_
              clear H a; intro a H
              refine g_take 8 H rfl (wanted_none rfl) rfl (by decide) (by kernel_rfl) (by kernel_rfl) (by kernel_rfl) FSq (fun w' hSw => (x_move H rfl rfl)) ?_
              clear H a; intro a H
              refine g_take 9 H rfl (wanted_none rfl) rfl (by decide) (by kernel_rfl) (by kernel_rfl) (by kernel_rfl) FSq (fun w' hSw => (x_move H rfl rfl)) ?_
              clear H a; intro a H
              refine g_take 10 H rfl (wanted_none rfl) rfl (by decide) (by kernel_rfl) (by kernel_rfl) (by kernel_rfl) FSq (fun w' hSw => (x_builtin H rfl rfl (fun cs => len_sl under84))) ?_
              clear H a; intro a H
              refine g_take 11 H rfl (wanted_none rfl) rfl (by decide) (by kernel_rfl) (by kernel_rfl) (by kernel_rfl) FSq (fun w' hSw => (x_binI H rfl rfl rfl (b_sub (z := ((qs.length - 1 : Nat) : Int)) (by rw [IntKind.wrap_i64]; omega)))) ?_
              clear H a; intro a H
              refine g_take 12 H rfl (wanted_none rfl) rfl (by decide) (by kernel_rfl) (by kernel_rfl) (by kernel_rfl) FSq (fun w' hSw => (x_move H rfl rfl)) ?_
              clear H a; intro a H
              refine g_take 13 H rfl (wanted_none rfl) rfl (by decide) (by kernel_rfl) (by kernel_rfl) (by kernel_rfl) FSq (fun w' hSw => (x_binI H rfl rfl rfl (b_sub (z := ((qs.length - 1 - j : Nat) : Int)) (by rw [IntKind.wrap_i64]; omega)))) ?_
              clear H a; intro a H
              refine g_take 14 H rfl (wanted_none rfl) rfl (by decide) (by kernel_rfl) (by kernel_rfl) (by kernel_rfl) FSq (fun w' hSw => (x_indexAddr H rfl rfl rfl (i_slN (m := qs.length - 1 - j) under84 size95 rfl (by omega)))) ?_
              clear H a; intro a H
              refine g_take 15 H rfl (wanted_none rfl) rfl (by decide) (by kernel_rfl) (by kernel_rfl) (by kernel_rfl) FSq (fun w' hSw => (x_load H rfl rfl (ld_elem (RL0.ext hSw) _ (y, uz) hp2))) ?_
              clear H a; intro a H
              refine g_call 16 H rfl (by kernel_rfl) (wanted_none rfl) rfl (by decide) rfl rfl (Try.call73 _) (requal_any y y uy uz _ hok hok hzp.zl hzq.zl) ?_
              clear H a
              rintro e we ⟨rfl, Ee⟩
              replace RL := RL.ext Ee
              replace RK := RK.ext Ee
              replace E := E.tr Ee
              replace FSq := FSq.tr Ee
              refine ⟨_, rfl, FSq, fun a H => ?_⟩
              rw [rcd_refl] at H
              refine g_take 17 H rfl (wanted_none rfl) rfl (by decide) (by kernel_rfl) (by kernel_rfl) (by kernel_rfl) FSq (fun w' hSw => (x_un H rfl rfl (u_not (c := false) (rfl)))) ?_
              clear H a; intro a H
              refine g_done (by kernel_rfl) (hR.out _ _ ?_)
              clear hR R
              refine hK40 _ _ ?_
              clear hK40 K40
              refine c_false H rfl ?_
              refine wp_skip ?_
              refine hK38 _ _ ?_
              clear hK38 K38
              refine e_region (fun R hR => ?_)
              refine e_op H rfl rfl (by decide) (x_binI H rfl rfl rfl (b_add (z := ((j + 1 : Nat) : Int)) (by rw [IntKind.wrap_i64]; omega))) ?_
              clear H a; intro a H
              refine e_op H rfl rfl (by decide) (x_move H rfl rfl) ?_
              clear H a; intro a H
              refine e_nil (hR.out _ _ ?_)
              clear hR R
              exact ⟨r.list.length - (j + 1), by omega, j + 1, by omega, rfl, H.sub ⟨rfl, rfl, rfl, rfl, rfl, trivial⟩, RL, RK, E⟩
            · skip
              skip
              refine wp_seq_k (fun K41 hK41 => ?_)
              refine e_region (fun R hR => ?_)
              refine e_op H rfl rfl (by decide) (x_binI H rfl rfl rfl (b_lss (b := false) (dec_f (by omega)))) ?_
              clear H a; intro a H
              refine e_nil (hR.out _ _ ?_)
              clear hR R
              refine hK41 _ _ ?_
              clear hK41 K41
              refine wp_seq_k (fun K42 hK42 => ?_)
              refine c_false H rfl ?_
              refine wp_exit ?_
              refine t_exit ?_
              refine t_exit ?_
              refine b_hit ?_
              clear hK42 K42
              refine hK34 _ _ ?_
              clear hK34 K34
              refine wp_seq_k (fun K43 hK43 => ?_)
              obtain ⟨wd, hwd⟩ : ∃ wx, wx = w.drew := ⟨_, rfl⟩
              have Ewd : Ext w wd := by rw [hwd]; exact (Ext.refl _).dr
              replace RL := RL.ext Ewd
              replace E := E.tr Ewd
              refine Code.wp_mono (Q := fun e a w => e = Exit.normal ∧ Has a 139 [(4, .bool true)] ∧ Ext w0 w) (fun e a w hM => ?_) ?_
              · skip
                clear H
                obtain ⟨rfl, H, E⟩ := hM
                refine hK43 _ _ ?_
                clear hK43 K43
                refine wp_ret ?_
                exact ret1 H rfl rfl ⟨rfl, E⟩
              · skip
                by_cases hq0 : qs.length = 0
                · skip
                  have hk0 : ks.length = 0 := by
                    have hg0 : goodOf comp first ss = [] := List.eq_nil_of_length_eq_zero (by omega)
                    rw [hkl, recs_eq, List.length_append]
                    have hlo := fed_lost Fr (by omega)
                    rw [hg0] at hlo
                    simp [posOf] at hlo
                    unfold recs0
                    rw [if_neg (by omega)]
                    simp only [List.length_nil]; omega
                  refine e_quiet (by kernel_rfl) (by kernel_rfl) (fun R hR => ?_)
                  rw [← hwd]
                  refine s_op H rfl rfl (by decide) (x_move H rfl rfl) ?_
                  clear H a; intro a H
                  refine s_op H rfl rfl (by decide) (x_builtin H rfl rfl (fun cs => len_sl under84)) ?_
                  clear H a; intro a H
                  refine s_op H rfl rfl (by decide) (x_binI H rfl rfl rfl (b_eql (b := true) (beq_t (by omega)))) ?_
                  clear H a; intro a H
                  refine s_op H rfl rfl (by decide) (x_move H rfl rfl) ?_
                  clear H a; intro a H
                  refine s_opg H (wanted_true H rfl rfl rfl rfl) rfl (by decide) (x_move H rfl rfl) ?_
                  clear H a; intro a H
                  refine s_opg H (wanted_true H rfl rfl rfl rfl) rfl (by decide) (x_builtin H rfl rfl (fun cs => len_sl under84)) ?_
                  clear H a; intro a H
                  refine s_opg H (wanted_true H rfl rfl rfl rfl) rfl (by decide) (x_binI H rfl rfl rfl (b_eql (b := true) (beq_t (by omega)))) ?_
                  clear H a; intro a H
                  refine s_op H rfl rfl (by decide) (x_pickT H rfl rfl rfl) ?_
                  clear H a; intro a H
                  refine s_op H rfl rfl (by decide) (x_move H rfl rfl) ?_
                  clear H a; intro a H
                  refine s_skip H (wanted_false H rfl rfl rfl rfl) rfl (by decide) ?_
                  clear H a; intro a H
                  refine s_skip H (wanted_false H rfl rfl rfl rfl) rfl (by decide) ?_
                  clear H a; intro a H
                  refine s_skip H (wanted_false H rfl rfl rfl rfl) rfl (by decide) ?_
                  clear H a; intro a H
                  refine s_skip H (wanted_false H rfl rfl rfl rfl) rfl (by decide) ?_
                  clear H a; intro a H
                  refine s_skip H (wanted_undef H rfl rfl rfl rfl) rfl (by decide) ?_
                  clear H a; intro a H
                  refine s_skip H (wanted_undef H rfl rfl rfl rfl) rfl (by decide) ?_
                  clear H a; intro a H
                  refine s_skip H (wanted_undef H rfl rfl rfl rfl) rfl (by decide) ?_
                  clear H a; intro a H
                  refine s_skip H (wanted_undef H rfl rfl rfl rfl) rfl (by decide) ?_
                  clear H a; intro a H
                  refine s_skip H (wanted_undef H rfl rfl rfl rfl) rfl (by decide) ?_
                  clear H a; intro a H
                  refine s_skip H (wanted_undef H rfl rfl rfl rfl) rfl (by decide) ?_
                  clear H a; intro a H
                  refine s_skip H (wanted_undef H rfl rfl rfl rfl) rfl (by decide) ?_
                  clear H a; intro a H
                  refine s_skip H (wanted_undef H rfl rfl rfl rfl) rfl (by decide) ?_
                  clear H a; intro a H
                  refine s_skip H (wanted_undef H rfl rfl rfl rfl) rfl (by decide) ?_
                  clear H a; intro a H
                  refine s_skip H (wanted_undef H rfl rfl rfl rfl) rfl (by decide) ?_
                  clear H a; intro a H
                  refine s_skip H (wanted_undef H rfl rfl rfl rfl) rfl (by decide) ?_
                  clear H a; intro a H
                  refine s_skip H (wanted_undef H rfl rfl rfl rfl) rfl (by decide) ?_
                  clear H a; intro a H
                  refine s_skip H (wanted_undef H rfl rfl rfl rfl) rfl (by decide) ?_
                  clear H a; intro a H
                  refine s_skip H (wanted_undef H rfl rfl rfl rfl) rfl (by decide) ?_
                  clear H a; intro a H
                  refine s_skip H (wanted_undef H rfl rfl rfl rfl) rfl (by decide) ?_
                  clear H a; intro a H
                  refine s_skip H (wanted_undef H rfl rfl rfl rfl) rfl (by decide) ?_
                  clear H a; intro a H
                  refine s_skip H (wanted_undef H rfl rfl rfl rfl) rfl (by decide) ?_
                  clear H a; intro a H
                  refine s_skip H (wanted_undef H rfl rfl rfl rfl) rfl (by decide) ?_
                  clear H a; intro a H
                  refine s_skip H (wanted_false H rfl rfl rfl rfl) rfl (by decide) ?_
                  clear H a; intro a H
                  refine s_op H rfl rfl (by decide) (x_pickT H rfl rfl rfl) ?_
                  clear H a; intro a H
                  refine s_op H rfl rfl (by decide) (x_assign H rfl rfl) ?_
                  clear H a; intro a H
                  refine wpStill_nil (hR.out _ _ ?_)
                  clear hR R
                  exact ⟨rfl, H.sub ⟨rfl, trivial⟩, E⟩
                · skip
                  obtain ⟨⟨y, uy⟩, hp⟩ : ∃ p, qs[qs.length - 1]? = some p := ⟨_, List.getElem?_eq_getElem (by omega)⟩
                  obtain ⟨gq, oq, hqa, hcl, hok, _, _⟩ := RL.at_ (qs.length - 1) (y, uy) hp
                  subst hqa
                  simp only at hok hcl
                  have hMy : M = y.idx + y.step := by
                    rcases List.eq_nil_or_concat (goodOf comp first ss) with h | ⟨l, x, h⟩
                    · rw [h, List.length_nil] at hQL; omega
                    · rw [List.concat_eq_append] at h
                      have hx : (qs.map (·.1))[qs.length - 1]? = some x := by rw [hqs, h, hQL, h]; simp
                      rw [List.getElem?_map, hp] at hx
                      simp only [Option.map_some, Option.some.injEq] at hx
                      rw [h] at hM
                      have := chain_last l first M x hM
                      rw [this, ← hx]
                  refine e_quiet (by kernel_rfl) (by kernel_rfl) (fun R hR => ?_)
                  rw [← hwd]
                  refine s_op H rfl rfl (by decide) (x_move H rfl rfl) ?_
                  clear H a; intro a H
                  refine s_op H rfl rfl (by decide) (x_builtin H rfl rfl (fun cs => len_sl under84)) ?_
                  clear H a; intro a H
                  refine s_op H rfl rfl (by decide) (x_binI H rfl rfl rfl (b_eql (b := false) (beq_f (by omega)))) ?_
                  clear H a; intro a H
                  refine s_op H rfl rfl (by decide) (x_move H rfl rfl) ?_
                  clear H a; intro a H
                  refine s_skip H (wanted_false H rfl rfl rfl rfl) rfl (by decide) ?_
                  clear H a; intro a H
                  refine s_skip H (wanted_false H rfl rfl rfl rfl) rfl (by decide) ?_
                  clear H a; intro a H
                  refine s_skip H (wanted_false H rfl rfl rfl rfl) rfl (by decide) ?_
                  clear H a; intro a H
                  refine s_op H rfl rfl (by decide) (x_pickF H rfl rfl rfl) ?_
                  clear H a; intro a H
                  refine s_op H rfl rfl (by decide) (x_move H rfl rfl) ?_
                  clear H a; intro a H
                  refine s_opg H (wanted_true H rfl rfl rfl rfl) rfl (by decide) (x_move H rfl rfl) ?_
                  clear H a; intro a H
                  refine s_opg H (wanted_true H rfl rfl rfl rfl) rfl (by decide) (x_builtin H rfl rfl (fun cs => len_sl under84)) ?_
                  clear H a; intro a H
                  refine s_opg H (wanted_true H rfl rfl rfl rfl) rfl (by decide) (x_binI H rfl rfl rfl (b_gtr (b := true) (dec_t (by omega)))) ?_
                  clear H a; intro a H
                  refine s_opg H (wanted_true H rfl rfl rfl rfl) rfl (by decide) (x_move H rfl rfl) ?_
                  clear H a; intro a H
                  refine s_opg H (wanted_true H rfl rfl rfl rfl) rfl (by decide) (x_move H rfl rfl) ?_
                  clear H a; intro a H
                  refine s_opg H (wanted_true H rfl rfl rfl rfl) rfl (by decide) (x_move H rfl rfl) ?_
                  clear H a; intro a H
                  refine s_opg H (wanted_true H rfl rfl rfl rfl) rfl (by decide) (x_move H rfl rfl) ?_
                  clear H a; intro a H
                  refine s_opg H (wanted_true H rfl rfl rfl rfl) rfl (by decide) (x_builtin H rfl rfl (fun cs => len_sl under84)) ?_
                  clear H a; intro a H
                  refine s_opg H (wanted_true H rfl rfl rfl rfl) rfl (by decide) (x_binI H rfl rfl rfl (b_sub (z := ((qs.length - 1 : Nat) : Int)) (by rw [IntKind.wrap_i64]; omega))) ?_
                  clear H a; intro a H
                  refine s_opg H (wanted_true H rfl rfl rfl rfl) rfl (by decide) (x_indexAddr H rfl rfl rfl (i_slN (m := qs.length - 1) under84 size95 rfl (by omega))) ?_
                  clear H a; intro a H
                  refine s_opg H (wanted_true H rfl rfl rfl rfl) rfl (by decide) (x_fieldAddr H rfl rfl (fa95o_1 _ _ _)) ?_
                  clear H a; intro a H
                  refine s_opg H (wanted_true H rfl rfl rfl rfl) rfl (by decide) (x_load H rfl rfl (l_cell Try.isAgg56 (hcl 1 _ rfl))) ?_
                  clear H a; intro a H
                  refine s_opg H (wanted_true H rfl rfl rfl rfl) rfl (by decide) (x_move H rfl rfl) ?_
                  clear H a; intro a H
                  refine s_opg H (wanted_true H rfl rfl rfl rfl) rfl (by decide) (x_move H rfl rfl) ?_
                  clear H a; intro a H
                  refine s_opg H (wanted_true H rfl rfl rfl rfl) rfl (by decide) (x_builtin H rfl rfl (fun cs => len_sl under84)) ?_
                  clear H a; intro a H
                  refine s_opg H (wanted_true H rfl rfl rfl rfl) rfl (by decide) (x_binI H rfl rfl rfl (b_sub (z := ((qs.length - 1 : Nat) : Int)) (by rw [IntKind.wrap_i64]; omega))) ?_
                  clear H a; intro a H
                  refine s_opg H (wanted_true H rfl rfl rfl rfl) rfl (by decide) (x_indexAddr H rfl rfl rfl (i_slN (m := qs.length - 1) under84 size95 rfl (by omega))) ?_
                  clear H a; intro a H
                  refine s_opg H (wanted_true H rfl rfl rfl rfl) rfl (by decide) (x_fieldAddr H rfl rfl (fa95o_5 _ _ _)) ?_
                  clear H a; intro a H
                  refine s_opg H (wanted_true H rfl rfl rfl rfl) rfl (by decide) (x_load H rfl rfl (l_cell Try.isAgg56 (hcl 28 _ (rc_lost hok.words)))) ?_
                  clear H a; intro a H
                  refine s_opg H (wanted_true H rfl rfl rfl rfl) rfl (by decide) (x_builtin H rfl rfl (fun cs => bi_max (z := ((y.step : Nat) : Int)) (max_step y))) ?_
                  clear H a; intro a H
                  refine s_opg H (wanted_true H rfl rfl rfl rfl) rfl (by decide) (x_binI H rfl rfl rfl (b_add (z := ((y.idx + y.step : Nat) : Int)) (by rw [IntKind.wrap_u64]; omega))) ?_
                  clear H a; intro a H
                  refine s_opg H (wanted_true H rfl rfl rfl rfl) rfl (by decide) (x_binI H rfl rfl rfl (b_eql (b := true) (beq_t (by omega)))) ?_
                  clear H a; intro a H
                  refine s_opg H (wanted_true H rfl rfl rfl rfl) rfl (by decide) (x_pickT H rfl rfl rfl) ?_
                  clear H a; intro a H
                  refine s_op H rfl rfl (by decide) (x_pickF H rfl rfl rfl) ?_
                  clear H a; intro a H
                  refine s_op H rfl rfl (by decide) (x_assign H rfl rfl) ?_
                  clear H a; intro a H
                  refine wpStill_nil (hR.out _ _ ?_)
                  clear hR R
                  exact ⟨rfl, H.sub ⟨rfl, trivial⟩, E⟩
end Go.Proofs.Ytknllmcpogoeoaa
