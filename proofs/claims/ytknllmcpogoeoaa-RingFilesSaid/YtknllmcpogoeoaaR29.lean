/- RingFiles, walked. -/
import Derived.Test.YtknllmcpogoeoaaR28
import Derived.Test.YtknllmcpogoeoaaR17
namespace Go.Proofs.Ytknllmcpogoeoaa
open Go.RowKit
set_option linter.unusedVariables false
set_option linter.unusedSimpArgs false
set_option maxRecDepth 100000
theorem conv_bsR {w : World} {a : Option Addr} {len cap : Nat} {l : List UInt8} (h : Bs w a len l) : (convert 22 9 (.slice a len cap)).run Try.prog w = .ok (.string ⟨l.toArray⟩) w := by
  have hl := h.leng
  cases a with
  | none =>
    have : l = [] := by
      cases l with
      | nil => rfl
      | cons x r =>
        obtain ⟨b, off, e, _⟩ := h.cell 0 (by simp at hl; omega)
        cases e
    subst this
    exact run_convert_bytes_nil w 22 5 Try.underlying22 Try.underlying5 len cap 9 Try.underlying9
  | some ad =>
    rw [← hl]
    refine run_convert_bytes_back w 22 9 5 ad cap l Try.underlying22 Try.underlying5 Try.underlying9 (fun j hj => ?_)
    obtain ⟨b, off, e, hc⟩ := h.cell j (by omega)
    simp only [Option.some.injEq] at e
    rw [e, Addr.add_lit, hc]
    simp [nb, List.getElem?_eq_getElem hj]

theorem neq9 {s t : ByteArray} {w : World} (h : s = t) : (binOp .neq 9 (.string s) (.string t)).run Try.prog w = .ok (.bool false) w := by
  subst h
  simp [binOp, Op.stringOp]
theorem neqg9 {x y : Operand} {s : ByteArray} {v : Value} {w : World} : (eqGuard .neq 9 x y (.string s) v).run Try.prog w = .ok () w := by
  rw [eqGuard_at_string]; rfl
/-- the scan of a file that was written whole -/
theorem scan_wholeR (ls : List (List UInt8)) (h : ∀ x ∈ ls, x.length ≤ 4000) : ∀ off, bodL (scanP off (fileOf ls)) = ls ∧ lostL (scanP off (fileOf ls)) = 0 := by
  induction ls with
  | nil => intro off; simp [fileOf, scanP_nil, bodL, lostL]
  | cons x r ih =>
    intro off
    have hx := h x (List.mem_cons_self ..)
    have e : fileOf (x :: r) = frameOf x ++ fileOf r := by simp [fileOf]
    rw [e, scanP_frame off x (fileOf r) hx, bodL_cons, lostL_cons]
    obtain ⟨i1, i2⟩ := ih (fun y hy => h y (List.mem_cons_of_mem _ hy)) (off + (8 + x.length))
    rw [i1, i2]
    simp
/-- a whole good play has an end -/
theorem good_end (comp first : Nat) (ss : List RStep) (hf : first ≤ 4294967295) (hok : ∀ s ∈ ss, s.ok) : ∃ m, chain first (goodOf comp first ss) m ∧ m < 9223372036854775808 := by
  rcases List.eq_nil_or_concat (goodOf comp first ss) with h | ⟨l, x, h⟩
  · rw [h]; exact ⟨first, rfl, by omega⟩
  · have hx : (goodOf comp first ss)[l.length]? = some x := by rw [h]; simp
    obtain ⟨_, m, h1, h2, h3⟩ := good_row comp first ss hf hok l.length x hx
    have ht : (goodOf comp first ss).take l.length = l := by rw [h]; simp
    rw [ht] at h1
    rw [h, List.concat_eq_append]
    exact ⟨_, chain_app l first m x h1 h2, h3⟩
/-- what a ring that was fed by a good play tells is good -/
theorem recs_good {first : Nat} {comp : Nat} {ss : List RStep} {d : Nat} {r : Rg} (F : Fed first ((comp % 8 : Nat) : Int) (goodOf comp first ss) d r) (hf : first ≤ 4294967295) (hss : ∀ s ∈ ss, s.ok) (hm : ∃ m, chain first (goodOf comp first ss) m ∧ m < 9223372036854775808) :
    ∀ x ∈ r.records, x.good = true ∧ x.what ≠ 3 := by
  have hk : ∀ x ∈ r.list, x.good = true ∧ x.what ≠ 3 := by
    intro x hx
    rw [F.list] at hx
    obtain ⟨i, hi⟩ := List.getElem?_of_mem (List.mem_of_mem_drop hx)
    obtain ⟨hfy, _⟩ := good_row comp first ss hf hss i x hi
    exact ⟨hfy.good, by rcases hfy.what with h | h <;> omega⟩
  intro x hx
  unfold Rg.records at hx
  split at hx
  · rename_i h0
    rcases List.mem_cons.1 hx with rfl | hx
    · obtain ⟨m, hc, hmb⟩ := hm
      have hl := fed_lost F (by omega)
      have hp := chain_pos _ first m d hc
      have hle := chain_le hp
      have hd : goodOf comp first ss ≠ [] := by
        intro e
        rw [e] at hl
        simp [posOf] at hl
        omega
      have he := F.era_ hd
      have hfst := F.fst hd
      refine ⟨?_, by simp [markR]⟩
      unfold Rcd.good Rcd.good0 markR
      rw [if_neg (by simp), if_pos rfl]
      unfold Rcd.bare inN
      simp only [evt_refl, decide_true, Bool.and_true, Bool.true_and, Bool.and_eq_true, decide_eq_true_eq]
      refine ⟨⟨by omega, by omega⟩, by omega, by omega⟩
    · exact hk x hx
  · exact hk x hx
theorem Vrow.at_ {w : World} {B : Nat} {a : Option Addr} {c : Nat} {rows : List (Value × List UInt8)} (h : Vrow w B a c rows) (k : Nat) (r : Value × List UInt8) (hr : rows[k]? = some r) :
    ∃ g off, a = some ⟨g, off, none⟩ ∧ w.cell? ⟨g, off + k, none⟩ = some r.1 ∧ ∃ b n c, r.1 = .slice b n c ∧ Ow w B b n c r.2 := by
  have hk := (List.getElem?_eq_some_iff.1 hr).1
  obtain ⟨h1, h2⟩ := h
  have hv : (rows.map (·.1))[k]? = some r.1 := by rw [List.getElem?_map, hr]; rfl
  have hs := Sr.of h1
  rcases hs.2 with ⟨e, h0⟩ | ⟨g, off, cap, cur, e, _⟩
  · omega
  · simp only [Value.slice.injEq] at e
    obtain ⟨rfl, _, rfl⟩ := e
    exact ⟨g, off, rfl, hs.cells k r.1 hv, h2 r (List.mem_of_getElem? hr)⟩
theorem ow_blk {w : World} {B : Nat} {a : Option Addr} {n c : Nat} {l : List UInt8} (h : Ow w B a n c l) : ∀ v, a = some v → v.block < w.heap.size := by
  intro v e
  rcases h.2 with ⟨e2, _⟩ | ⟨g, cap, cur, e2, _, hh, _⟩
  · simp only [Value.slice.injEq] at e2
    rw [e2.1] at e
    cases e
  · simp only [Value.slice.injEq] at e2
    rw [e2.1] at e
    simp only [Option.some.injEq] at e
    subst e
    exact (Array.getElem?_eq_some_iff.1 hh).1
set_option maxHeartbeats 1600000 in
theorem ringFiles_any (ca comp first : Nat) (pa : Option Addr) (len pc : Nat) (ss : List RStep) (w0 : World) (hr : Rt w0 pa len ss) (ha : ca ≤ 65535) (hc : comp ≤ 255) (hf : first ≤ 4294967295) (hlen : len ≤ 8796093021952) :
    Calls Try.prog 16 #[.int .u16 (ca : Int), .agg (plCells comp first (.slice pa len pc)).toArray] w0 fun e w' => e = .returned (.bool true) ∧ Ext w0 w' := by
  have hss : ∀ s ∈ ss, s.ok := fun s hs => by
    obtain ⟨k, hk⟩ := List.getElem?_of_mem hs
    exact (hr.cell k s hk).1
  refine calls_has (args := [.int .u16 (ca : Int), .agg (plCells comp first (.slice pa len pc)).toArray]) Try.func16 rfl Try.ntmps16 (Nat.le_of_ble_eq_true rfl) (fun a H => ?_)
  simp only [argl, Nat.reduceAdd] at H
  refine wp_seq_k (fun K1 hK1 => ?_)
  refine e_region (fun R hR => ?_)
  refine e_op H rfl rfl (by decide) (x_box H rfl rfl bx_new) ?_
  clear H a; intro a H
  have B1 := Blk.new w0 80 (plCells comp first (.slice pa len pc))
  have E1 := (Ext.refl w0).al (.cells (plCells comp first (.slice pa len pc)).toArray 80)
  obtain ⟨g1, hg1⟩ : ∃ g, g = w0.heap.size := ⟨_, rfl⟩
  rw [← hg1] at H B1
  generalize w0.alloc (.cells (plCells comp first (.slice pa len pc)).toArray 80) = w1 at *
  refine e_op H rfl rfl (by decide) (x_assign H rfl rfl) ?_
  clear H a; intro a H
  refine e_nil (hR.out _ _ ?_)
  clear hR R
  refine hK1 _ _ ?_
  clear hK1 K1
  refine wp_seq_k (fun K2 hK2 => ?_)
  refine wp_seq_k (fun K3 hK3 => ?_)
  refine e_region (fun R hR => ?_)
  refine e_callq H rfl rfl (by decide) rfl rfl (Try.call65 _) (rawake_any w1) ?_
  clear H a
  rintro e w2 ⟨rfl, F2⟩
  refine ⟨_, rfl, fun a H => ?_⟩
  have E2 := E1.tr F2
  have B2 := B1.ext F2
  refine e_op H rfl rfl (by decide) (x_un H rfl rfl (u_not (c := false) (rfl))) ?_
  clear H a; intro a H
  refine e_nil (hR.out _ _ ?_)
  clear hR R
  refine hK3 _ _ ?_
  clear hK3 K3
  refine c_false H rfl ?_
  refine wp_skip ?_
  refine hK2 _ _ ?_
  clear hK2 K2
  refine wp_seq_k (fun K4 hK4 => ?_)
  refine e_region (fun R hR => ?_)
  refine e_op H rfl rfl (by decide) (x_move H rfl rfl) ?_
  clear H a; intro a H
  refine e_op H rfl rfl (by decide) (x_binI H rfl rfl rfl (b_rem (z := ((ca % 300 : Nat) : Int)) (by decide) (by rw [Int.tmod_eq_emod_of_nonneg (by omega)]; omega))) ?_
  clear H a; intro a H
  refine e_op H rfl rfl (by decide) (x_conv H rfl rfl (c_int (z := ((ca % 300 : Nat) : Int)) Try.underlying47 Try.underlying3 (by rw [IntKind.wrap_i64]; omega))) ?_
  clear H a; intro a H
  refine e_op H rfl rfl (by decide) (x_binI H rfl rfl rfl (b_add (z := (1 + ((ca % 300 : Nat) : Int))) (by rw [IntKind.wrap_i64]; omega))) ?_
  clear H a; intro a H
  refine e_callq H rfl rfl (by decide) rfl rfl (Try.call66 _) (newRn (1 + ((ca % 300 : Nat) : Int)) w2 (by omega) (by omega) w0.heap.size E2.sz) ?_
  clear H a
  rintro e w3 ⟨gr, rfl, Rr, F3, hgr⟩
  refine ⟨_, rfl, fun a H => ?_⟩
  have E3 := E2.tr F3
  have B3 := B2.ext F3
  refine e_op H rfl rfl (by decide) (x_move H rfl rfl) ?_
  clear H a; intro a H
  refine e_op H rfl rfl (by decide) (x_ext0 H rfl rfl) ?_
  clear H a; intro a H
  refine e_op H rfl rfl (by decide) (x_ext1 H rfl rfl) ?_
  clear H a; intro a H
  refine e_op H rfl rfl (by decide) (x_assign H rfl rfl) ?_
  clear H a; intro a H
  refine e_op H rfl rfl (by decide) (x_assign H rfl rfl) ?_
  clear H a; intro a H
  refine e_nil (hR.out _ _ ?_)
  clear hR R
  refine hK4 _ _ ?_
  clear hK4 K4
  refine wp_seq_k (fun K5 hK5 => ?_)
  refine wp_seq_k (fun K6 hK6 => ?_)
  refine e_region (fun R hR => ?_)
  refine e_op H rfl rfl (by decide) (x_move H rfl rfl) ?_
  clear H a; intro a H
  refine e_op H rfl rfl (by decide) (x_binI H rfl rfl rfl (b_neq (b := false) (rfl))) ?_
  clear H a; intro a H
  refine e_op H rfl rfl (by decide) (x_move H rfl rfl) ?_
  clear H a; intro a H
  refine e_opg H (wanted_true H rfl rfl rfl rfl) rfl (by decide) (x_move H rfl rfl) ?_
  clear H a; intro a H
  refine e_opg H (wanted_true H rfl rfl rfl rfl) rfl (by decide) (x_bin H rfl rfl rfl (by rw [eqGuard_at_pointer]; rfl) (b_pnil (c := false) under81 rfl)) ?_
  clear H a; intro a H
  refine e_op H rfl rfl (by decide) (x_pickF H rfl rfl rfl) ?_
  clear H a; intro a H
  refine e_nil (hR.out _ _ ?_)
  clear hR R
  refine hK6 _ _ ?_
  clear hK6 K6
  refine c_false H rfl ?_
  refine wp_skip ?_
  refine hK5 _ _ ?_
  clear hK5 K5
  refine wp_seq_k (fun K7 hK7 => ?_)
  refine wp_seq_k (fun K8 hK8 => ?_)
  refine e_region (fun R hR => ?_)
  refine e_op H rfl rfl (by decide) (x_load H rfl rfl (l_part (cs := plCells comp first (.slice pa len pc)) isAgg80 size80 (fun j v hv => by rw [B3.cell, Nat.zero_add]; exact hv))) ?_
  clear H a; intro a H
  refine e_callq H rfl rfl (by decide) rfl rfl (Try.call67 _) (goodP_any comp first pa len pc ss w3 (hr.ext E3) hc hf hlen) ?_
  clear H a
  rintro e w5 ⟨vq, qs, rfl, RL, hqs, F5⟩
  refine ⟨_, rfl, fun a H => ?_⟩
  have E5 := E3.tr F5
  replace RL := RL.mono E3.sz
  replace Rr := Rr.ext F5
  obtain ⟨qa, qc, rfl, _⟩ := RL.row.shape
  obtain ⟨hs, hhs⟩ : ∃ n, n = w5.heap.size := ⟨_, rfl⟩
  have hqold : ∀ k, (Value.slice qa qs.length qc).ownBlock = some k → k < hs := fun k hk => by have := (RL.row.blk k hk).2.1; omega
  have hQL : qs.length = (goodOf comp first ss).length := by have := congrArg List.length hqs; rwa [List.length_map] at this
  have hql : qs.length ≤ 40 := by rw [hQL]; exact good_len _ _ _
  refine e_op H rfl rfl (by decide) (x_builtin H rfl rfl (fun cs => len_sl under84)) ?_
  clear H a; intro a H
  refine e_op H rfl rfl (by decide) (x_move H rfl rfl) ?_
  clear H a; intro a H
  refine e_nil (hR.out _ _ ?_)
  clear hR R
  refine hK8 _ _ ?_
  clear hK8 K8
  refine wp_block ?_
  refine wp_loop_ghost (fun n a w => ∃ i vr psr r d, i ≤ qs.length ∧ n = qs.length - i ∧ Has a 111 [(5, .pointer (some ⟨gr, 0, none⟩)), (37, .slice qa qs.length qc), (38, .int .i64 ((qs.length : Nat) : Int)), (39, .int .i64 (i : Int))] ∧ Rn w w0.heap.size gr vr psr r ∧ Rl w w0.heap.size (.slice qa qs.length qc) qs ∧ (∀ k, vr.ownBlock = some k → hs ≤ k) ∧ Fed first ((comp % 8 : Nat) : Int) ((goodOf comp first ss).take i) d r ∧ hs ≤ w.heap.size ∧ Ext w0 w) (qs.length) ?_ ?_
  · skip
    exact ⟨0, .slice none 0 0, [], _, 0, by omega, rfl, H.sub ⟨rfl, rfl, rfl, rfl, trivial⟩, Rr, RL, (fun k hk => by cases hk), fed_nil _ _ _ (by omega), by omega, E5⟩
  · skip
    clear H Rr RL E5
    intro n a w hI
    obtain ⟨i, vr, psr, r, d, hi, rfl, H, Rr, RL, sep1, Fr, hws, E⟩ := hI
    rcases (show i < qs.length ∨ i = qs.length by omega) with hlt | rfl
    · skip
      obtain ⟨⟨y, uy⟩, hp⟩ : ∃ p, qs[i]? = some p := ⟨_, List.getElem?_eq_getElem hlt⟩
      obtain ⟨gq, oq, hqa, hcl, hok, hzp, _⟩ := RL.at_ i (y, uy) hp
      subst hqa
      have hld := ld_elem RL i (y, uy) hp
      simp only at hok hzp hld
      obtain ⟨ua, uc, rfl, _⟩ := (Sr.of hzp.1).shape
      have hLi : (goodOf comp first ss)[i]? = some y := by rw [← hqs, List.getElem?_map, hp]; rfl
      obtain ⟨hfy, m, hm, hxi, hmb⟩ := good_row comp first ss hf hss i y hLi
      have hw3n : y.what ≠ 3 := by rcases hfy.what with h | h <;> omega
      have htk : (goodOf comp first ss).take (i + 1) = (goodOf comp first ss).take i ++ [y] := by rw [List.take_add_one, hLi]; rfl
      obtain ⟨hcr, Fr'⟩ := fed_put Fr hfy hm hxi (by omega)
      have hpr : psr.length ≤ 1000000 := by have := congrArg List.length Rr.eq; rw [List.length_map, Fr.list, List.length_drop, List.length_take] at this; omega
      refine wp_seq_k (fun K9 hK9 => ?_)
      refine e_region (fun R hR => ?_)
      refine e_op H rfl rfl (by decide) (x_binI H rfl rfl rfl (b_lss (b := true) (dec_t (by omega)))) ?_
      clear H a; intro a H
      refine e_nil (hR.out _ _ ?_)
      clear hR R
      refine hK9 _ _ ?_
      clear hK9 K9
      refine wp_seq_k (fun K10 hK10 => ?_)
      refine c_true H rfl ?_
      refine wp_skip ?_
      refine hK10 _ _ ?_
      clear hK10 K10
      refine wp_seq_k (fun K11 hK11 => ?_)
      refine wp_block ?_
      refine wp_seq_k (fun K12 hK12 => ?_)
      refine e_region (fun R hR => ?_)
      refine e_op H rfl rfl (by decide) (x_indexAddr H rfl rfl rfl (i_slN (m := i) under84 size95 rfl hlt)) ?_
      clear H a; intro a H
      refine e_op H rfl rfl (by decide) (x_load H rfl rfl hld) ?_
      clear H a; intro a H
      refine e_op H rfl rfl (by decide) (x_alloc H rfl (al_new (z95 _))) ?_
      clear H a; intro a H
      refine e_st H rfl rfl (x_store H rfl rfl rfl (st_row (Blk.new w 95 zero95) (by rw [info95]; simp [Rcd.cells_len _ _ hok.words]) (by simp [Rcd.cells_len _ _ hok.words, zero95]) (by rw [Array.all_eq_true']; intro z hz; exact cells_one y ua y.ev.args.length uc z (by simpa using hz)))) ?_
      obtain ⟨T, Ex⟩ := copy_rec w y (.slice ua y.ev.args.length uc) hok.words
      obtain ⟨gx, hgx⟩ : ∃ g, g = w.heap.size := ⟨_, rfl⟩
      rw [← hgx] at H T Ex
      rw [← hgx]
      generalize (w.alloc (.cells zero95.toArray 95)).setRow gx (y.cells (.slice ua y.ev.args.length uc)).toArray = wa at *
      have hgxw : gx = w.heap.size := hgx
      have lr := Rr.blk.lt
      have lvr : ∀ k, vr.ownBlock = some k → k < w.heap.size := fun k hk => (Rr.lst.row.blk k hk).2.1
      replace Rr := Rr.ext Ex
      replace RL := RL.ext Ex
      replace hzp := hzp.ext Ex
      replace E := E.tr Ex
      have hwa := Ex.sz
      refine e_nil (hR.out _ _ ?_)
      clear hR R
      refine hK12 _ _ ?_
      clear hK12 K12
      refine e_region (fun R hR => ?_)
      refine e_op H rfl rfl (by decide) (x_move H rfl rfl) ?_
      clear H a; intro a H
      refine e_op H rfl rfl (by decide) (x_load H rfl rfl (ld_rec T hok.words)) ?_
      clear H a; intro a H
      refine e_callq H rfl rfl (by decide) rfl rfl (Try.call68 _) (put_ok w0.heap.size gr vr psr r y wa Rr hok ua y.ev.args.length uc (hzp.mono (Nat.zero_le _)) hfy.good hw3n (fed_beg Fr hfy hm hxi) hpr E.sz) ?_
      clear H a
      rintro e wb ⟨vr2, psr2, rfl, Rr2, FF, hown⟩
      refine ⟨_, rfl, fun a H => ?_⟩
      rw [(put_of hcr).1] at Rr2
      replace RL := RL.frm FF (Rl.apart Rr RL (fun k hk e => by have := hqold k hk; have := sep1 k e; omega)) Rr.no2
      replace E := putExt E Rr FF
      have hwb := FF.size
      clear FF Rr T hzp
      refine e_nil (hR.out _ _ ?_)
      clear hR R
      refine hK11 _ _ ?_
      clear hK11 K11
      refine e_region (fun R hR => ?_)
      refine e_op H rfl rfl (by decide) (x_binI H rfl rfl rfl (b_add (z := ((i + 1 : Nat) : Int)) (by rw [IntKind.wrap_i64]; omega))) ?_
      clear H a; intro a H
      refine e_op H rfl rfl (by decide) (x_move H rfl rfl) ?_
      clear H a; intro a H
      refine e_nil (hR.out _ _ ?_)
      clear hR R
      refine ⟨qs.length - (i + 1), by omega, i + 1, vr2, psr2, _, _, by omega, rfl, H.sub ⟨rfl, rfl, rfl, rfl, trivial⟩, Rr2, RL, ?_, by rw [htk]; exact Fr', by omega, E⟩
      intro k hk
      rcases hown with h | h | ⟨b, h, hb⟩
      · rw [h] at hk; cases hk
      · rw [h] at hk; exact sep1 k hk
      · rw [h] at hk; cases hk; omega
    · skip
      skip
      refine wp_seq_k (fun K13 hK13 => ?_)
      refine e_region (fun R hR => ?_)
      refine e_op H rfl rfl (by decide) (x_binI H rfl rfl rfl (b_lss (b := false) (dec_f (by omega)))) ?_
      clear H a; intro a H
      refine e_nil (hR.out _ _ ?_)
      clear hR R
      refine hK13 _ _ ?_
      clear hK13 K13
      refine wp_seq_k (fun K14 hK14 => ?_)
      refine c_false H rfl ?_
      refine wp_exit ?_
      refine t_exit ?_
      refine t_exit ?_
      refine b_hit ?_
      clear hK14 K14
      refine hK7 _ _ ?_
      clear hK7 K7
      refine wp_seq_k (fun K15 hK15 => ?_)
      refine e_region (fun R hR => ?_)
      refine e_op H rfl rfl (by decide) (x_assign H rfl rfl) ?_
      clear H a; intro a H
      refine e_nil (hR.out _ _ ?_)
      clear hR R
      refine hK15 _ _ ?_
      clear hK15 K15
      refine wp_seq_k (fun K16 hK16 => ?_)
      refine e_region (fun R hR => ?_)
      have hpn : psr.length ≤ 1000000 := by have := congrArg List.length Rr.eq; rw [List.length_map, Fr.list, List.length_drop, List.length_take] at this; omega
      refine e_op H rfl rfl (by decide) (x_move H rfl rfl) ?_
      clear H a; intro a H
      refine e_callq H rfl rfl (by decide) rfl rfl (Try.call69 _) (records_any w0.heap.size gr vr psr r w Rr hpn) ?_
      clear H a
      rintro e wb ⟨vk, ks, rfl, RK, hks, Fb⟩
      refine ⟨_, rfl, fun a H => ?_⟩
      replace RK := RK.mono E.sz
      replace Rr := Rr.ext Fb
      replace E := E.tr Fb
      obtain ⟨ka, kc, rfl, _⟩ := RK.row.shape
      have hkl : ks.length = r.records.length := by rw [← hks, List.length_map]
      have hrl : r.list.length ≤ 40 := by rw [Fr.list, List.length_drop, List.length_take]; omega
      have hkb : ks.length ≤ 41 := by rw [hkl, recs_eq, List.length_append]; unfold recs0; split <;> simp <;> omega
      rw [hQL, List.take_length] at Fr
      have hgd := recs_good Fr hf hss (good_end comp first ss hf hss)
      have h16 : ∀ x ∈ r.records, x.words.length = 16 := fun x hx => by rw [← hks] at hx; obtain ⟨q, hq, rfl⟩ := List.mem_map.1 hx; exact RK.w16 q hq
      refine e_op H rfl rfl (by decide) (x_assign H rfl rfl) ?_
      clear H a; intro a H
      refine e_nil (hR.out _ _ ?_)
      clear hR R
      refine hK16 _ _ ?_
      clear hK16 K16
      refine wp_seq_k (fun K17 hK17 => ?_)
      refine wp_seq_k (fun K18 hK18 => ?_)
      refine e_region (fun R hR => ?_)
      refine e_op H rfl rfl (by decide) (x_move H rfl rfl) ?_
      clear H a; intro a H
      refine e_op H rfl rfl (by decide) (x_builtin H rfl rfl (fun cs => len_sl under84)) ?_
      clear H a; intro a H
      refine e_op H rfl rfl (by decide) (x_move H rfl rfl) ?_
      clear H a; intro a H
      refine e_nil (hR.out _ _ ?_)
      clear hR R
      refine hK18 _ _ ?_
      clear hK18 K18
      refine wp_block ?_
      refine wp_loop_ghost (fun n a w => ∃ i va c, i ≤ ks.length ∧ n = ks.length - i ∧ Has a 111 [(5, .pointer (some ⟨gr, 0, none⟩)), (9, .slice va (fileOf ((r.records.take i).map Rcd.bytes)).length c), (10, .slice ka ks.length kc), (49, .slice ka ks.length kc), (50, .int .i64 ((ks.length : Nat) : Int)), (51, .int .i64 (i : Int))] ∧ Ow w w0.heap.size va (fileOf ((r.records.take i).map Rcd.bytes)).length c (fileOf ((r.records.take i).map Rcd.bytes)) ∧ Rl w w0.heap.size (.slice ka ks.length kc) ks ∧ Rn w w0.heap.size gr vr psr r ∧ Ext w0 w) (ks.length) ?_ ?_
      · skip
        exact ⟨0, none, 0, by omega, rfl, H.sub ⟨rfl, rfl, rfl, rfl, rfl, rfl, trivial⟩, ow_nil _ _, RK, Rr, E⟩
      · skip
        clear H RK E Rr
        intro n a w hI
        obtain ⟨i, va, c, hi, rfl, H, hO, RK, Rr, E⟩ := hI
        rcases (show i < ks.length ∨ i = ks.length by omega) with hlt | rfl
        · skip
          obtain ⟨⟨y, uy⟩, hp⟩ : ∃ p, ks[i]? = some p := ⟨_, List.getElem?_eq_getElem hlt⟩
          obtain ⟨gq, oq, hqa, hcl, hok, hzp, _⟩ := RK.at_ i (y, uy) hp
          subst hqa
          have hld := ld_elem RK i (y, uy) hp
          simp only at hok hzp hld
          obtain ⟨ua, uc, rfl, _⟩ := (Sr.of hzp.1).shape
          have hy : r.records[i]? = some y := by rw [← hks, List.getElem?_map, hp]; rfl
          have hyl : y.bytes.length ≤ 400 := size_le y hok.words
          have hfl := filesB_le r.records h16 i
          refine wp_seq_k (fun K19 hK19 => ?_)
          refine e_region (fun R hR => ?_)
          refine e_op H rfl rfl (by decide) (x_binI H rfl rfl rfl (b_lss (b := true) (dec_t (by omega)))) ?_
          clear H a; intro a H
          refine e_nil (hR.out _ _ ?_)
          clear hR R
          refine hK19 _ _ ?_
          clear hK19 K19
          refine wp_seq_k (fun K20 hK20 => ?_)
          refine c_true H rfl ?_
          refine wp_skip ?_
          refine hK20 _ _ ?_
          clear hK20 K20
          refine wp_seq_k (fun K21 hK21 => ?_)
          refine wp_block ?_
          refine wp_seq_k (fun K22 hK22 => ?_)
          refine e_region (fun R hR => ?_)
          refine e_op H rfl rfl (by decide) (x_indexAddr H rfl rfl rfl (i_slN (m := i) under84 size95 rfl hlt)) ?_
          clear H a; intro a H
          refine e_op H rfl rfl (by decide) (x_load H rfl rfl hld) ?_
          clear H a; intro a H
          refine e_op H rfl rfl (by decide) (x_alloc H rfl (al_new (z95 _))) ?_
          clear H a; intro a H
          refine e_st H rfl rfl (x_store H rfl rfl rfl (st_row (Blk.new w 95 zero95) (by rw [info95]; simp [Rcd.cells_len _ _ hok.words]) (by simp [Rcd.cells_len _ _ hok.words, zero95]) (by rw [Array.all_eq_true']; intro z hz; exact cells_one y ua y.ev.args.length uc z (by simpa using hz)))) ?_
          obtain ⟨T, Ex⟩ := copy_rec w y (.slice ua y.ev.args.length uc) hok.words
          obtain ⟨gx, hgx⟩ : ∃ g, g = w.heap.size := ⟨_, rfl⟩
          rw [← hgx] at H T Ex
          rw [← hgx]
          generalize (w.alloc (.cells zero95.toArray 95)).setRow gx (y.cells (.slice ua y.ev.args.length uc)).toArray = wa at *
          replace hO := hO.ext_ Ex
          replace RK := RK.ext Ex
          replace Rr := Rr.ext Ex
          replace hzp := hzp.ext Ex
          replace E := E.tr Ex
          refine e_nil (hR.out _ _ ?_)
          clear hR R
          refine hK22 _ _ ?_
          clear hK22 K22
          refine wp_seq_k (fun K23 hK23 => ?_)
          refine e_region (fun R hR => ?_)
          refine e_op H rfl rfl (by decide) (x_move H rfl rfl) ?_
          clear H a; intro a H
          refine e_op H rfl rfl (by decide) (x_load H rfl rfl (ld_rec T hok.words)) ?_
          clear H a; intro a H
          refine e_callq H rfl rfl (by decide) rfl rfl (Try.call70 _) (rbytes_any y (.slice ua y.ev.args.length uc) wa hok hzp.zl) ?_
          clear H a
          rintro e wb ⟨ab, cb, rfl, hOb, Eb⟩
          refine ⟨_, rfl, fun a H => ?_⟩
          replace hO := hO.ext_ Eb
          replace RK := RK.ext Eb
          replace Rr := Rr.ext Eb
          replace E := E.tr Eb
          refine e_callq H rfl rfl (by decide) rfl rfl (Try.call33 _) (append_any va ab (fileOf ((r.records.take i).map Rcd.bytes)).length c y.bytes.length cb (fileOf ((r.records.take i).map Rcd.bytes)) y.bytes wb hO.bs hOb.bs (by omega) (by omega) (ow_cap hO) (ow_cap hOb)) ?_
          clear H a
          rintro e wc hpost
          unfold AppendPost at hpost
          rw [if_neg (by omega)] at hpost
          obtain ⟨aq, nq, cq, rfl, hO2, hnq, hBel⟩ := hpost
          refine ⟨_, rfl, fun a H => ?_⟩
          have Ec : Ext wb wc := hBel
          replace RK := RK.ext Ec
          replace Rr := Rr.ext Ec
          have hszb := E.sz
          replace E := E.tr Ec
          clear hO
          refine e_op H rfl rfl (by decide) (x_move H rfl rfl) ?_
          clear H a; intro a H
          refine e_op H rfl rfl (by decide) (x_ext0 H rfl rfl) ?_
          clear H a; intro a H
          refine e_op H rfl rfl (by decide) (x_ext1 H rfl rfl) ?_
          clear H a; intro a H
          refine e_op H rfl rfl (by decide) (x_assign H rfl rfl) ?_
          clear H a; intro a H
          refine e_op H rfl rfl (by decide) (x_assign H rfl rfl) ?_
          clear H a; intro a H
          refine e_nil (hR.out _ _ ?_)
          clear hR R
          refine hK23 _ _ ?_
          clear hK23 K23
          refine wp_seq_k (fun K24 hK24 => ?_)
          refine wp_seq_k (fun K25 hK25 => ?_)
          refine e_region (fun R hR => ?_)
          refine e_op H rfl rfl (by decide) (x_move H rfl rfl) ?_
          clear H a; intro a H
          refine e_op H rfl rfl (by decide) (x_binI H rfl rfl rfl (b_neq (b := false) (rfl))) ?_
          clear H a; intro a H
          refine e_nil (hR.out _ _ ?_)
          clear hR R
          refine hK25 _ _ ?_
          clear hK25 K25
          refine c_false H rfl ?_
          refine wp_skip ?_
          refine hK24 _ _ ?_
          clear hK24 K24
          refine e_region (fun R hR => ?_)
          refine e_op H rfl rfl (by decide) (x_move H rfl rfl) ?_
          clear H a; intro a H
          refine e_op H rfl rfl (by decide) (x_assign H rfl rfl) ?_
          clear H a; intro a H
          refine e_nil (hR.out _ _ ?_)
          clear hR R
          refine hK21 _ _ ?_
          clear hK21 K21
          refine e_region (fun R hR => ?_)
          refine e_op H rfl rfl (by decide) (x_binI H rfl rfl rfl (b_add (z := ((i + 1 : Nat) : Int)) (by rw [IntKind.wrap_i64]; omega))) ?_
          clear H a; intro a H
          refine e_op H rfl rfl (by decide) (x_move H rfl rfl) ?_
          clear H a; intro a H
          refine e_nil (hR.out _ _ ?_)
          clear hR R
          have hfs := filesB_succ r.records i y hy
          have hnl : nq = (fileOf ((r.records.take (i + 1)).map Rcd.bytes)).length := by rw [hfs, List.length_append, frameOf_len]; exact hnq
          rw [← hfs] at hO2
          subst hnl
          exact ⟨ks.length - (i + 1), by omega, i + 1, aq, cq, by omega, rfl, H.sub ⟨rfl, rfl, rfl, rfl, rfl, rfl, trivial⟩, hO2.mono hszb, RK, Rr, E⟩
        · skip
          skip
          refine wp_seq_k (fun K26 hK26 => ?_)
          refine e_region (fun R hR => ?_)
          refine e_op H rfl rfl (by decide) (x_binI H rfl rfl rfl (b_lss (b := false) (dec_f (by omega)))) ?_
          clear H a; intro a H
          refine e_nil (hR.out _ _ ?_)
          clear hR R
          refine hK26 _ _ ?_
          clear hK26 K26
          refine wp_seq_k (fun K27 hK27 => ?_)
          refine c_false H rfl ?_
          refine wp_exit ?_
          refine t_exit ?_
          refine t_exit ?_
          refine b_hit ?_
          clear hK27 K27
          refine hK17 _ _ ?_
          clear hK17 K17
          refine wp_seq_k (fun K28 hK28 => ?_)
          refine wp_seq_k (fun K29 hK29 => ?_)
          have htk2 : r.records.take ks.length = r.records := by rw [hkl, List.take_length]
          rw [htk2] at H hO
          have hFl : (fileOf (r.records.map Rcd.bytes)).length ≤ 20000 := by have := filesB_le r.records h16 r.records.length; rw [List.take_length] at this; omega
          obtain ⟨wd, hwd⟩ : ∃ wx, wx = w.drew := ⟨_, rfl⟩
          have Ewd : Ext w wd := by rw [hwd]; exact (Ext.refl _).dr
          replace RK := RK.ext Ewd
          replace Rr := Rr.ext Ewd
          replace hO := hO.ext_ Ewd
          replace E := E.tr Ewd
          have hO0 := hO
          have FSq := Ext.refl wd
          refine g_start (fun w' => Ext wd w') (by kernel_rfl) (fun R hR => ?_)
          rw [← hwd]
          refine g_take 0 H rfl (wanted_none rfl) rfl (by decide) (by kernel_rfl) (by kernel_rfl) (by kernel_rfl) FSq (fun w' hSw => (x_move H rfl rfl)) ?_
          clear H a; intro a H
          refine g_take 3 H rfl (wanted_none rfl) rfl (by decide) (by kernel_rfl) (by kernel_rfl) (by kernel_rfl) FSq (fun w' hSw => (x_move H rfl rfl)) ?_
          clear H a; intro a H
          refine g_take 4 H rfl (wanted_none rfl) rfl (by decide) (by kernel_rfl) (by kernel_rfl) (by kernel_rfl) FSq (fun w' hSw => (x_conv H rfl rfl (conv_bsR (hSw.bs hO0.bs)))) ?_
          clear H a; intro a H
          refine g_call 1 H rfl (by kernel_rfl) (wanted_none rfl) rfl (by decide) rfl rfl (Try.call71 _) (file_any w0.heap.size gr vr psr r _ Rr hpn) ?_
          clear H a
          rintro e we ⟨af, cf, rfl, hOf, Ee⟩
          replace RK := RK.ext Ee
          replace hO := hO.ext_ Ee
          replace E := E.tr Ee
          replace FSq := FSq.tr Ee
          refine ⟨_, rfl, FSq, fun a H => ?_⟩
          refine g_op 2 H rfl (by kernel_rfl) (wanted_none rfl) rfl (by decide) (x_conv H rfl rfl (conv_bsR hOf.bs)) (FSq) ?_
          clear H a; intro a H
          refine g_take 5 H rfl (wanted_none rfl) rfl (by decide) (by kernel_rfl) (by kernel_rfl) (by kernel_rfl) FSq (fun w' hSw => (x_bin H rfl rfl rfl neqg9 (neq9 rfl))) ?_
          clear H a; intro a H
          refine g_done (by kernel_rfl) (hR.out _ _ ?_)
          clear hR R
          refine hK29 _ _ ?_
          clear hK29 K29
          refine c_false H rfl ?_
          refine wp_skip ?_
          refine hK28 _ _ ?_
          clear hK28 K28
          refine wp_seq_k (fun K30 hK30 => ?_)
          refine e_region (fun R hR => ?_)
          refine e_op H rfl rfl (by decide) (x_move H rfl rfl) ?_
          clear H a; intro a H
          refine e_callq H rfl rfl (by decide) rfl rfl (Try.call38 _) (bodies_any va (fileOf (r.records.map Rcd.bytes)).length c (fileOf (r.records.map Rcd.bytes)) _ hO.bs (by omega) (ow_cap hO)) ?_
          clear H a
          rintro e wf ⟨ra, rc, rows, rfl, VR, hrw, Ef⟩
          refine ⟨_, rfl, fun a H => ?_⟩
          replace RK := RK.ext Ef
          replace E := E.tr Ef
          have hwh := scan_wholeR (r.records.map Rcd.bytes) (fun z hz => by obtain ⟨y, hy, rfl⟩ := List.mem_map.1 hz; have := size_le y (h16 y hy); unfold Rcd.size at this; omega) 0
          rw [hwh.1] at hrw
          rw [hwh.2] at H
          have hrows : rows.length = ks.length := by have := congrArg List.length hrw; rw [List.length_map, List.length_map] at this; omega
          replace VR := VR.mono (Nat.zero_le _)
          refine e_op H rfl rfl (by decide) (x_move H rfl rfl) ?_
          clear H a; intro a H
          refine e_op H rfl rfl (by decide) (x_ext0 H rfl rfl) ?_
          clear H a; intro a H
          refine e_op H rfl rfl (by decide) (x_ext1 H rfl rfl) ?_
          clear H a; intro a H
          refine e_op H rfl rfl (by decide) (x_assign H rfl rfl) ?_
          clear H a; intro a H
          refine e_op H rfl rfl (by decide) (x_assign H rfl rfl) ?_
          clear H a; intro a H
          refine e_nil (hR.out _ _ ?_)
          clear hR R
          refine hK30 _ _ ?_
          clear hK30 K30
          refine wp_seq_k (fun K31 hK31 => ?_)
          refine wp_seq_k (fun K32 hK32 => ?_)
          refine e_region (fun R hR => ?_)
          refine e_op H rfl rfl (by decide) (x_move H rfl rfl) ?_
          clear H a; intro a H
          refine e_op H rfl rfl (by decide) (x_binI H rfl rfl rfl (b_neq (b := false) (rfl))) ?_
          clear H a; intro a H
          refine e_op H rfl rfl (by decide) (x_move H rfl rfl) ?_
          clear H a; intro a H
          refine e_opg H (wanted_true H rfl rfl rfl rfl) rfl (by decide) (x_move H rfl rfl) ?_
          clear H a; intro a H
          refine e_opg H (wanted_true H rfl rfl rfl rfl) rfl (by decide) (x_builtin H rfl rfl (fun cs => len_sl Try.underlying37)) ?_
          clear H a; intro a H
          refine e_opg H (wanted_true H rfl rfl rfl rfl) rfl (by decide) (x_move H rfl rfl) ?_
          clear H a; intro a H
          refine e_opg H (wanted_true H rfl rfl rfl rfl) rfl (by decide) (x_builtin H rfl rfl (fun cs => len_sl under84)) ?_
          clear H a; intro a H
          refine e_opg H (wanted_true H rfl rfl rfl rfl) rfl (by decide) (x_binI H rfl rfl rfl (b_neq (b := false) (bne_f (by omega)))) ?_
          clear H a; intro a H
          refine e_op H rfl rfl (by decide) (x_pickF H rfl rfl rfl) ?_
          clear H a; intro a H
          refine e_nil (hR.out _ _ ?_)
          clear hR R
          refine hK32 _ _ ?_
          clear hK32 K32
          refine c_false H rfl ?_
          refine wp_skip ?_
          refine hK31 _ _ ?_
          clear hK31 K31
          refine wp_seq_k (fun K33 hK33 => ?_)
          refine wp_seq_k (fun K34 hK34 => ?_)
          refine e_region (fun R hR => ?_)
          refine e_op H rfl rfl (by decide) (x_move H rfl rfl) ?_
          clear H a; intro a H
          refine e_op H rfl rfl (by decide) (x_builtin H rfl rfl (fun cs => len_sl under84)) ?_
          clear H a; intro a H
          refine e_op H rfl rfl (by decide) (x_move H rfl rfl) ?_
          clear H a; intro a H
          refine e_nil (hR.out _ _ ?_)
          clear hR R
          refine hK34 _ _ ?_
          clear hK34 K34
          refine wp_block ?_
          refine wp_loop_ghost (fun n a w => ∃ j, j ≤ ks.length ∧ n = ks.length - j ∧ Has a 111 [(10, .slice ka ks.length kc), (15, .slice ra rows.length rc), (87, .int .i64 ((ks.length : Nat) : Int)), (88, .int .i64 (j : Int))] ∧ Rl w w0.heap.size (.slice ka ks.length kc) ks ∧ Vrow w 0 ra rc rows ∧ Ext w0 w) (ks.length) ?_ ?_
          · skip
            exact ⟨0, by omega, rfl, H.sub ⟨rfl, rfl, rfl, rfl, trivial⟩, RK, VR, E⟩
          · skip
            clear H RK VR E Rr hO
            intro n a w hI
            obtain ⟨j, hj, rfl, H, RK, VR, E⟩ := hI
            rcases (show j < ks.length ∨ j = ks.length by omega) with hlt | hje
            · skip
              obtain ⟨⟨y, uy⟩, hp⟩ : ∃ p, ks[j]? = some p := ⟨_, List.getElem?_eq_getElem hlt⟩
              obtain ⟨gq, oq, hqa, hcl, hok, hzp, _⟩ := RK.at_ j (y, uy) hp
              subst hqa
              simp only at hok hzp
              have hy : r.records[j]? = some y := by rw [← hks, List.getElem?_map, hp]; rfl
              have hyl : y.bytes.length ≤ 400 := size_le y hok.words
              have hyg := hgd y (List.mem_of_getElem? hy)
              obtain ⟨rw_, hrj⟩ : ∃ q, rows[j]? = some q := ⟨_, List.getElem?_eq_getElem (by omega)⟩
              obtain ⟨gv, ov, hva, hcv, bv, nv, cv, hbv, hOv⟩ := VR.at_ j rw_ hrj
              subst hva
              have hrb : rw_.2 = y.bytes := by
                have h1 : (rows.map (·.2))[j]? = some rw_.2 := by rw [List.getElem?_map, hrj]; rfl
                rw [hrw, List.getElem?_map, hy] at h1
                simpa using h1.symm
              rw [hrb] at hOv
              rw [hbv] at hcv
              have hnv : y.bytes.length = nv := hOv.leng
              subst hnv
              refine wp_seq_k (fun K35 hK35 => ?_)
              refine e_region (fun R hR => ?_)
              refine e_op H rfl rfl (by decide) (x_binI H rfl rfl rfl (b_lss (b := true) (dec_t (by omega)))) ?_
              clear H a; intro a H
              refine e_nil (hR.out _ _ ?_)
              clear hR R
              refine hK35 _ _ ?_
              clear hK35 K35
              refine wp_seq_k (fun K36 hK36 => ?_)
              refine c_true H rfl ?_
              refine wp_skip ?_
              refine hK36 _ _ ?_
              clear hK36 K36
              refine wp_seq_k (fun K37 hK37 => ?_)
              refine wp_block ?_
              refine wp_seq_k (fun K38 hK38 => ?_)
              refine e_region (fun R hR => ?_)
              refine e_op H rfl rfl (by decide) (x_move H rfl rfl) ?_
              clear H a; intro a H
              refine e_op H rfl rfl (by decide) (x_assign H rfl rfl) ?_
              clear H a; intro a H
              refine e_nil (hR.out _ _ ?_)
              clear hR R
              refine hK38 _ _ ?_
              clear hK38 K38
              refine wp_seq_k (fun K39 hK39 => ?_)
              refine e_region (fun R hR => ?_)
              refine e_op H rfl rfl (by decide) (x_move H rfl rfl) ?_
              clear H a; intro a H
              refine e_op H rfl rfl (by decide) (x_move H rfl rfl) ?_
              clear H a; intro a H
              refine e_op H rfl rfl (by decide) (x_indexAddr H rfl rfl rfl (i_sl (m := j) Try.underlying37 Try.sizeOf22 rfl (by omega))) ?_
              clear H a; intro a H
              refine e_op H rfl rfl (by decide) (x_load H rfl rfl (l_cell Try.isAgg22 hcv)) ?_
              clear H a; intro a H
              refine e_callq H rfl rfl (by decide) rfl rfl (Try.call72 _) (read_any y bv y.bytes.length cv w hok hyg.1 hyg.2 hOv.bs (ow_cap hOv) (ow_le hOv) (by omega) (ow_blk hOv)) ?_
              clear H a
              rintro e we ⟨az, cz, rfl, Z, Ee⟩
              refine ⟨_, rfl, fun a H => ?_⟩
              replace RK := RK.ext Ee
              replace VR := VR.ext Ee
              replace hzp := hzp.ext Ee
              replace Z := Z.mono E.sz
              replace E := E.tr Ee
              refine e_op H rfl rfl (by decide) (x_move H rfl rfl) ?_
              clear H a; intro a H
              refine e_op H rfl rfl (by decide) (x_ext0 H rfl rfl) ?_
              clear H a; intro a H
              refine e_op H rfl rfl (by decide) (x_ext1 H rfl rfl) ?_
              clear H a; intro a H
              refine e_op H rfl rfl (by decide) (x_alloc H rfl (al_new (z95 _))) ?_
              clear H a; intro a H
              refine e_st H rfl rfl (x_store H rfl rfl rfl (st_row (Blk.new we 95 zero95) (by rw [info95]; simp [Rcd.cells_len _ _ hok.words]) (by simp [Rcd.cells_len _ _ hok.words, zero95]) (by rw [Array.all_eq_true']; intro z hz; exact cells_one y az y.ev.args.length cz z (by simpa using hz)))) ?_
              obtain ⟨T, Ex⟩ := copy_rec we y (.slice az y.ev.args.length cz) hok.words
              obtain ⟨gx, hgx⟩ : ∃ g, g = we.heap.size := ⟨_, rfl⟩
              rw [← hgx] at H T Ex
              rw [← hgx]
              generalize (we.alloc (.cells zero95.toArray 95)).setRow gx (y.cells (.slice az y.ev.args.length cz)).toArray = wa at *
              replace RK := RK.ext Ex
              replace VR := VR.ext Ex
              replace hzp := hzp.ext Ex
              replace Z := Z.ext Ex
              replace E := E.tr Ex
              refine e_op H rfl rfl (by decide) (x_assign H rfl rfl) ?_
              clear H a; intro a H
              refine e_nil (hR.out _ _ ?_)
              clear hR R
              refine hK39 _ _ ?_
              clear hK39 K39
              refine wp_seq_k (fun K40 hK40 => ?_)
              obtain ⟨wd, hwd⟩ : ∃ wx, wx = wa.drew := ⟨_, rfl⟩
              have Ewd : Ext wa wd := by rw [hwd]; exact (Ext.refl _).dr
              replace RK := RK.ext Ewd
              replace VR := VR.ext Ewd
              replace hzp := hzp.ext Ewd
              replace Z := Z.ext Ewd
              replace T := T.ext Ewd
              replace E := E.tr Ewd
              have RK0 := RK
              have T0 := T
              have FSq := Ext.refl wd
              refine g_start (fun w' => Ext wd w') (by kernel_rfl) (fun R hR => ?_)
              rw [← hwd]
              refine g_take 0 H rfl (wanted_none rfl) rfl (by decide) (by kernel_rfl) (by kernel_rfl) (by kernel_rfl) FSq (fun w' hSw => (x_move H rfl rfl)) ?_
              clear H a; intro a H
              refine g_take 1 H rfl (wanted_none rfl) rfl (by decide) (by kernel_rfl) (by kernel_rfl) (by kernel_rfl) FSq (fun w' hSw => (x_binI H rfl rfl rfl (b_neq (b := false) (rfl)))) ?_
              clear H a; intro a H
              refine g_take 2 H rfl (wanted_none rfl) rfl (by decide) (by kernel_rfl) (by kernel_rfl) (by kernel_rfl) FSq (fun w' hSw => (x_move H rfl rfl)) ?_
              clear H a; intro a H
              refine g_take 3 H rfl (wanted_true H rfl rfl rfl rfl) rfl (by decide) (by kernel_rfl) (by kernel_rfl) (by kernel_rfl) FSq (fun w' hSw => (x_load H rfl rfl (ld_rec (T0.ext hSw) hok.words))) ?_
              clear H a; intro a H
              refine g_take 4 H rfl (wanted_true H rfl rfl rfl rfl) rfl (by decide) (by kernel_rfl) (by kernel_rfl) (by kernel_rfl) FSq (fun w' hSw => (x_move H rfl rfl)) ?_
              clear H a; intro a H
              refine g_take 5 H rfl (wanted_true H rfl rfl rfl rfl) rfl (by decide) (by kernel_rfl) (by kernel_rfl) (by kernel_rfl) FSq (fun w' hSw => (x_move H rfl rfl)) ?_
              clear H a; intro a H
              refine g_take 6 H rfl (wanted_true H rfl rfl rfl rfl) rfl (by decide) (by kernel_rfl) (by kernel_rfl) (by kernel_rfl) FSq (fun w' hSw => (x_indexAddr H rfl rfl rfl (i_slN (m := j) under84 size95 rfl hlt))) ?_
              clear H a; intro a H
              refine g_take 7 H rfl (wanted_true H rfl rfl rfl rfl) rfl (by decide) (by kernel_rfl) (by kernel_rfl) (by kernel_rfl) FSq (fun w' hSw => (x_load H rfl rfl (ld_elem (RK0.ext hSw) j (y, uy) hp))) ?_
              clear H a; intro a H
              refine g_call 8 H rfl (by kernel_rfl) (wanted_true H rfl rfl rfl rfl) rfl (by decide) rfl rfl (Try.call73 _) (requal_any y y _ uy _ hok hok Z.zl hzp.zl) ?_
              clear H a
              rintro e we ⟨rfl, Fe⟩
              replace RK := RK.ext Fe
              replace VR := VR.ext Fe
              replace E := E.tr Fe
              replace FSq := FSq.tr Fe
              refine ⟨_, rfl, FSq, fun a H => ?_⟩
              rw [rcd_refl] at H
              refine g_take 9 H rfl (wanted_true H rfl rfl rfl rfl) rfl (by decide) (by kernel_rfl) (by kernel_rfl) (by kernel_rfl) FSq (fun w' hSw => (x_un H rfl rfl (u_not (c := false) (rfl)))) ?_
              clear H a; intro a H
              refine g_take 10 H rfl (wanted_none rfl) rfl (by decide) (by kernel_rfl) (by kernel_rfl) (by kernel_rfl) FSq (fun w' hSw => (x_pickF H rfl rfl rfl)) ?_
              clear H a; intro a H
              refine g_done (by kernel_rfl) (hR.out _ _ ?_)
              clear hR R
              refine hK40 _ _ ?_
              clear hK40 K40
              refine c_false H rfl ?_
              refine wp_skip ?_
              refine hK37 _ _ ?_
              clear hK37 K37
              refine e_region (fun R hR => ?_)
              refine e_op H rfl rfl (by decide) (x_binI H rfl rfl rfl (b_add (z := ((j + 1 : Nat) : Int)) (by rw [IntKind.wrap_i64]; omega))) ?_
              clear H a; intro a H
              refine e_op H rfl rfl (by decide) (x_move H rfl rfl) ?_
              clear H a; intro a H
              refine e_nil (hR.out _ _ ?_)
              clear hR R
              exact ⟨ks.length - (j + 1), by omega, j + 1, by omega, rfl, H.sub ⟨rfl, rfl, rfl, rfl, trivial⟩, RK, VR, E⟩
            · skip
              skip
              refine wp_seq_k (fun K41 hK41 => ?_)
              refine e_region (fun R hR => ?_)
              refine e_op H rfl rfl (by decide) (x_binI H rfl rfl rfl (b_lss (b := false) (dec_f (by omega)))) ?_
              clear H a; intro a H
              refine e_nil (hR.out _ _ ?_)
              clear hR R
              refine hK41 _ _ ?_
              clear hK41 K41
              refine wp_seq_k (fun K42 hK42 => ?_)
              refine c_false H rfl ?_
              refine wp_exit ?_
              refine t_exit ?_
              refine t_exit ?_
              refine b_hit ?_
              clear hK42 K42
              refine hK33 _ _ ?_
              clear hK33 K33
              refine wp_seq_k (fun K43 hK43 => ?_)
              refine e_region (fun R hR => ?_)
              refine e_op H rfl rfl (by decide) (x_assign H rfl rfl) ?_
              clear H a; intro a H
              refine e_nil (hR.out _ _ ?_)
              clear hR R
              refine hK43 _ _ ?_
              clear hK43 K43
              refine wp_ret ?_
              exact ret1 H rfl rfl ⟨rfl, E⟩
end Go.Proofs.Ytknllmcpogoeoaa
