/- The reference's Sum, walked. -/
import Derived.Test.YtknllmcpogoeoaaDoorD7
namespace Go.Proofs.YtknllmcpogoeoaaDoor
open Go.RowKit
set_option linter.unusedVariables false
set_option linter.unusedSimpArgs false
set_option maxRecDepth 100000
theorem z25 (w : World) : (zeroValue 25).run Tryd.prog w = .ok (.agg (u8s (List.replicate 32 0)).toArray) w := by rw [Tryd.zeroValue25]; rfl
theorem out8_at (s : S8) (i : Nat) (h : i < 32) : (out8 s)[i]? = some (UInt8.ofNat ((wat s.l (i / 4)).toNat / 2 ^ (24 - 8 * (i % 4)))) := by
  match i, h with
  | 0, _ | 1, _ | 2, _ | 3, _ | 4, _ | 5, _ | 6, _ | 7, _ | 8, _ | 9, _ | 10, _ | 11, _ | 12, _ | 13, _ | 14, _ | 15, _ | 16, _ | 17, _ | 18, _ | 19, _ | 20, _ | 21, _ | 22, _ | 23, _ | 24, _ | 25, _ | 26, _ | 27, _ | 28, _ | 29, _ | 30, _ | 31, _ => simp [out8, S8.l, wat]
  | n + 32, h => omega
theorem Ow.form0 {w : World} {B : Nat} {a : Option Addr} {n c : Nat} {l : List UInt8} (h : Ow w B a n c l) (hn : 0 < n) : ∃ g, a = some ⟨g, 0, none⟩ ∧ B ≤ g ∧ g < w.heap.size ∧ (∀ k, w.frozen? ⟨g, k, none⟩ = false) := by
  rcases h.form with ⟨rfl, rfl, rfl, rfl⟩ | ⟨g, cur, rfl, hg, hh, r⟩
  · omega
  · refine ⟨g, rfl, hg, (h.lt rfl).2, fun k => ?_⟩
    simp [World.frozen?, hh]
set_option maxHeartbeats 8000000 in
theorem refsum_any (ad : Option Addr) (m c : Nat) (p : List UInt8) (w0 : World) (hp : Bs w0 ad m p) (hn : ad = none → c = 0) (hm : m ≤ 70368744177664) :
    Calls Tryd.prog 17 #[.slice ad m c] w0 fun e w' => e = .returned (.agg (u8s (sha p)).toArray) ∧ Ext w0 w' := by
  refine calls_has (args := [.slice ad m c]) Tryd.func17 rfl Tryd.ntmps17 (Nat.le_of_ble_eq_true rfl) (fun a H => ?_)
  simp only [argl, Nat.reduceAdd] at H
  refine wp_seq_k (fun K1 hK1 => ?_)
  refine e_region (fun R hR => ?_)
  refine e_op H rfl rfl (by decide) (x_alloc H rfl (al_new (z25 _))) ?_
  clear H a; intro a H
  have D1 := Blk.new w0 25 (u8s (List.replicate 32 0))
  have E1 := (Ext.refl w0).al (.cells (u8s (List.replicate 32 0)).toArray 25)
  obtain ⟨gd, hgd⟩ : ∃ gd, gd = w0.heap.size := ⟨_, rfl⟩
  rw [← hgd] at H D1
  generalize w0.alloc (.cells (u8s (List.replicate 32 0)).toArray 25) = w1 at *
  refine e_nil (hR.out _ _ ?_)
  clear hR R
  refine hK1 _ _ ?_
  clear hK1 K1
  refine wp_seq_k (fun K2 hK2 => ?_)
  refine e_region (fun R hR => ?_)
  refine e_op H rfl rfl (by decide) (x_alloc H rfl (al_new (z67 _))) ?_
  clear H a; intro a H
  have S1 := Blk.new w1 67 (u32s (List.replicate 8 0#32))
  have E2 := E1.al (.cells (u32s (List.replicate 8 0#32)).toArray 67)
  have D2 := D1.alloc (.cells (u32s (List.replicate 8 0#32)).toArray 67)
  obtain ⟨gs, hgs⟩ : ∃ gs, gs = w1.heap.size := ⟨_, rfl⟩
  rw [← hgs] at H S1
  have hds : gd < gs := by have := D1.lt; omega
  have hsz1 := E1.sz
  generalize w1.alloc (.cells (u32s (List.replicate 8 0#32)).toArray 67) = w2 at *
  clear D1 E1
  refine e_nil (hR.out _ _ ?_)
  clear hR R
  refine hK2 _ _ ?_
  clear hK2 K2
  refine wp_seq_k (fun K3 hK3 => ?_)
  refine wp_seq_k (fun K4 hK4 => ?_)
  refine e_region (fun R hR => ?_)
  refine e_op H rfl rfl (by decide) (x_assign H rfl rfl) ?_
  clear H a; intro a H
  refine e_nil (hR.out _ _ ?_)
  clear hR R
  refine hK4 _ _ ?_
  clear hK4 K4
  refine wp_block ?_
  refine wp_loop_ghost (fun n a w => ∃ i : Nat, i ≤ 8 ∧ n = 8 - i ∧ Has a 152 [(0, .slice ad m c), (2, .pointer (some ⟨gd, 0, none⟩)), (3, .pointer (some ⟨gs, 0, none⟩)), (4, .int .i64 (i : Int))] ∧ Blk w gs 67 (u32s (st0.l.take i ++ List.replicate (8 - i) 0#32)) ∧ Blk w gd 25 (u8s (List.replicate 32 0)) ∧ Ext w0 w) (8) ?_ ?_
  · skip
    exact ⟨0, by omega, rfl, H.sub ⟨rfl, rfl, rfl, rfl, trivial⟩, S1, D2, E2⟩
  · skip
    clear H a S1 D2 E2
    intro n a w hI
    obtain ⟨i, hi, rfl, H, S1, D2, E2⟩ := hI
    rcases Nat.lt_or_ge i 8 with hlt | hge
    · skip
      have hs8 := S8.len st0
      have htl : (st0.l.take i).length = i := by rw [List.length_take]; omega
      refine wp_seq_k (fun K5 hK5 => ?_)
      refine wp_seq_k (fun K6 hK6 => ?_)
      refine e_region (fun R hR => ?_)
      refine e_op H rfl rfl (by decide) (x_move H rfl rfl) ?_
      clear H a; intro a H
      refine e_op H rfl rfl (by decide) (x_binI H rfl rfl rfl (b_lss (b := true) (dec_t (by omega)))) ?_
      clear H a; intro a H
      refine e_nil (hR.out _ _ ?_)
      clear hR R
      refine hK6 _ _ ?_
      clear hK6 K6
      refine c_true H rfl ?_
      refine wp_skip ?_
      refine hK5 _ _ ?_
      clear hK5 K5
      refine wp_seq_k (fun K7 hK7 => ?_)
      refine wp_block ?_
      refine e_region (fun R hR => ?_)
      refine e_op H rfl rfl (by decide) (x_move H rfl rfl) ?_
      clear H a; intro a H
      refine e_op H rfl rfl (by decide) (x_move H rfl rfl) ?_
      clear H a; intro a H
      refine e_callp H rfl rfl (by decide) rfl rfl (Tryd.call39 _) (constant_any i (by omega) _) ?_
      clear H a; intro a H
      refine e_op H rfl rfl (by decide) (x_indexAddr H rfl rfl rfl (i_arr0 (m := i) Tryd.underlying67 Tryd.sizeOf66 rfl (by omega))) ?_
      clear H a; intro a H
      refine e_st H rfl rfl (x_store H rfl rfl rfl (st_cell rfl rfl Tryd.sizeOf66 (S1.frozen i) (S1.isSome i (by simp [u32s_len, htl]; omega)))) ?_
      have S3 := S1.set_ i (.int .u32 (wn (wat kall i)))
      rw [u32s_set, show 8 - i = (7 - i) + 1 by omega, fill_set _ _ _ _ _ htl, kall_lo i hlt, show st0.l.take i ++ [wat st0.l i] = st0.l.take (i + 1) by rw [List.take_succ_eq_append_getElem (by omega)]; simp [wat, hlt, hs8], show 7 - i = 8 - (i + 1) by omega] at S3
      have D3 := D2.far (b := gs) (o := i) (by omega) (.int .u32 (wn (wat kall i)))
      have E3 := E2.st (g := gs) (by omega) i (.int .u32 (wn (wat kall i)))
      rw [kall_lo i hlt] at D3 E3 ⊢
      refine e_nil (hR.out _ _ ?_)
      clear hR R
      refine hK7 _ _ ?_
      clear hK7 K7
      refine e_region (fun R hR => ?_)
      refine e_op H rfl rfl (by decide) (x_move H rfl rfl) ?_
      clear H a; intro a H
      refine e_op H rfl rfl (by decide) (x_binI H rfl rfl rfl (b_add (z := ((i + 1 : Nat) : Int)) (by rw [IntKind.wrap_i64]; omega))) ?_
      clear H a; intro a H
      refine e_op H rfl rfl (by decide) (x_assign H rfl rfl) ?_
      clear H a; intro a H
      refine e_nil (hR.out _ _ ?_)
      clear hR R
      exact ⟨8 - (i + 1), by omega, i + 1, by omega, rfl, H.sub ⟨rfl, rfl, rfl, rfl, trivial⟩, S3, D3, E3⟩
    · skip
      obtain rfl : i = 8 := by omega
      refine wp_seq_k (fun K8 hK8 => ?_)
      refine wp_seq_k (fun K9 hK9 => ?_)
      refine e_region (fun R hR => ?_)
      refine e_op H rfl rfl (by decide) (x_move H rfl rfl) ?_
      clear H a; intro a H
      refine e_op H rfl rfl (by decide) (x_binI H rfl rfl rfl (b_lss (b := false) (dec_f (by omega)))) ?_
      clear H a; intro a H
      refine e_nil (hR.out _ _ ?_)
      clear hR R
      refine hK9 _ _ ?_
      clear hK9 K9
      refine c_false H rfl ?_
      refine wp_exit ?_
      refine t_exit ?_
      refine t_exit ?_
      refine b_hit ?_
      clear hK8 K8
      refine hK3 _ _ ?_
      clear hK3 K3
      refine wp_seq_k (fun K10 hK10 => ?_)
      refine e_region (fun R hR => ?_)
      refine e_op H rfl rfl (by decide) (x_move H rfl rfl) ?_
      clear H a; intro a H
      refine e_callq H rfl rfl (by decide) rfl rfl (Tryd.call40 _) (pad_any ad m c p _ (E2.bs hp) hn hm) ?_
      clear H a
      rintro e w3 ⟨a5, c5, n5, rfl, O5, E5⟩
      refine ⟨_, rfl, fun a H => ?_⟩
      have S2 : Blk w3 gs 67 (u32s (blk (padded p) 0).l) := by
        have := S1.ext E5
        rw [List.take_of_length_le (by rw [S8.len]; omega), Nat.sub_self, List.replicate_zero, List.append_nil] at this
        exact this
      have D4 := D2.ext E5
      have hwsz := E2.sz
      have E6 := E2.tr E5
      have O6 : Ow w3 w0.heap.size a5 n5 c5 (padded p) := O5.mono hwsz
      have hO5 : ∀ b off, a5 = some ⟨b, off, none⟩ → gs < b := fun b off e => by have := (O5.lt e).1; have := S1.lt; omega
      have hnl := O5.leng
      have hmod := padded_mod p
      have hmb : n5 ≤ 70368744177792 := by have := padded_len p; have := padn_pos p.length; have := hp.leng; omega
      clear O5 E5 S1 D2 E2
      refine e_op H rfl rfl (by decide) (x_assign H rfl rfl) ?_
      clear H a; intro a H
      refine e_nil (hR.out _ _ ?_)
      clear hR R
      refine hK10 _ _ ?_
      clear hK10 K10
      refine wp_seq_k (fun K11 hK11 => ?_)
      refine wp_seq_k (fun K12 hK12 => ?_)
      refine e_region (fun R hR => ?_)
      refine e_op H rfl rfl (by decide) (x_assign H rfl rfl) ?_
      clear H a; intro a H
      refine e_nil (hR.out _ _ ?_)
      clear hR R
      obtain ⟨Q, hQ⟩ : ∃ Q, Q = n5 / 64 := ⟨_, rfl⟩
      refine hK12 _ _ ?_
      clear hK12 K12
      refine wp_block ?_
      refine wp_loop_ghost (fun n a w => ∃ q : Nat, q ≤ Q ∧ n = Q - q ∧ Has a 152 [(2, .pointer (some ⟨gd, 0, none⟩)), (3, .pointer (some ⟨gs, 0, none⟩)), (5, .slice a5 n5 c5), (6, .int .i64 ((64 * q : Nat) : Int))] ∧ Blk w gs 67 (u32s (blk (padded p) q).l) ∧ Blk w gd 25 (u8s (List.replicate 32 0)) ∧ Ow w w0.heap.size a5 n5 c5 (padded p) ∧ Ext w0 w) (Q) ?_ ?_
      · skip
        exact ⟨0, by omega, rfl, H.sub ⟨rfl, rfl, rfl, rfl, trivial⟩, S2, D4, O6, E6⟩
      · skip
        clear H a S2 D4 O6 E6 hwsz
        intro n a w hI
        clear w3
        obtain ⟨q, hq, rfl, H, S2, D4, O6, E6⟩ := hI
        have hsz6 := E6.sz
        rcases Nat.lt_or_ge q Q with hlt | hge
        · skip
          obtain ⟨gp, rfl, hgp, hgp2, _⟩ := O6.form0 (by omega)
          have hcap := O6.cap.1
          obtain ⟨bl, hbl⟩ : ∃ bl, bl = ((padded p).drop (64 * q)).take 64 := ⟨_, rfl⟩
          have hsub : Bs w (cutA (some ⟨gp, 0, none⟩) c5 (64 * q)) 64 bl := by
            rw [hbl]
            refine O6.bs.sub (64 * q) 64 (by omega) (fun b off e hp => ?_)
            simp only [Option.some.injEq, Addr.mk.injEq] at e
            obtain ⟨rfl, rfl, _⟩ := e
            unfold cutA
            rw [if_neg (by omega)]
            simp [Addr.add_lit]
          have hcut : cutA (some ⟨gp, 0, none⟩) c5 (64 * q) = some ⟨gp, 64 * q, none⟩ := by
            unfold cutA
            rw [if_neg (by omega)]
            simp [Addr.add_lit]
          rw [hcut] at hsub
          refine wp_seq_k (fun K13 hK13 => ?_)
          refine wp_seq_k (fun K14 hK14 => ?_)
          refine e_region (fun R hR => ?_)
          refine e_op H rfl rfl (by decide) (x_move H rfl rfl) ?_
          clear H a; intro a H
          refine e_op H rfl rfl (by decide) (x_move H rfl rfl) ?_
          clear H a; intro a H
          refine e_op H rfl rfl (by decide) (x_builtin H rfl rfl (fun cs => len_sl Tryd.underlying22)) ?_
          clear H a; intro a H
          refine e_op H rfl rfl (by decide) (x_binI H rfl rfl rfl (b_lss (b := true) (dec_t (by omega)))) ?_
          clear H a; intro a H
          refine e_nil (hR.out _ _ ?_)
          clear hR R
          refine hK14 _ _ ?_
          clear hK14 K14
          refine c_true H rfl ?_
          refine wp_skip ?_
          refine hK13 _ _ ?_
          clear hK13 K13
          refine wp_seq_k (fun K15 hK15 => ?_)
          refine wp_block ?_
          refine wp_seq_k (fun K16 hK16 => ?_)
          refine e_region (fun R hR => ?_)
          refine e_op H rfl rfl (by decide) (x_move H rfl rfl) ?_
          clear H a; intro a H
          refine e_op H rfl rfl (by decide) (x_move H rfl rfl) ?_
          clear H a; intro a H
          refine e_op H rfl rfl (by decide) (x_move H rfl rfl) ?_
          clear H a; intro a H
          refine e_op H rfl rfl (by decide) (x_binI H rfl rfl rfl (b_add (z := ((64 * q + 64 : Nat) : Int)) (by rw [IntKind.wrap_i64]; omega))) ?_
          clear H a; intro a H
          refine e_op H rfl rfl (by decide) (x_slice H rfl rfl rfl rfl (sl_lh (lo := 64 * q) (hi := 64 * q + 64) Tryd.underlying22 Tryd.sizeOf5 rfl rfl (by omega) (by omega))) ?_
          clear H a; intro a H
          rw [hcut, show 64 * q + 64 - 64 * q = 64 by omega] at H
          refine e_callq H rfl rfl (by decide) rfl rfl (Tryd.call41 _) (schedule_any gp (64 * q) (c5 - 64 * q) bl w hsub) ?_
          clear H a
          rintro e w4 ⟨gw, cw, rfl, hgw, E4⟩
          refine ⟨_, rfl, fun a H => ?_⟩
          have S4 := S2.ext E4
          have D5 := D4.ext E4
          have O7 := Ext.row E4 O6
          have E7 := E6.tr E4
          clear hsub S2 D4 O6
          refine e_op H rfl rfl (by decide) (x_assign H rfl rfl) ?_
          clear H a; intro a H
          refine e_nil (hR.out _ _ ?_)
          clear hR R
          refine hK16 _ _ ?_
          clear hK16 K16
          refine wp_seq_k (fun K17 hK17 => ?_)
          refine e_region (fun R hR => ?_)
          refine e_op H rfl rfl (by decide) (x_load H rfl rfl (l_row S4 Tryd.underlying67 rfl (by kernel_rfl))) ?_
          clear H a; intro a H
          refine e_op H rfl rfl (by decide) (x_alloc H rfl (al_new (z67 _))) ?_
          clear H a; intro a H
          have T1 := Blk.new w4 67 (u32s (List.replicate 8 0#32))
          have E8 := E7.al (.cells (u32s (List.replicate 8 0#32)).toArray 67)
          have EA := (Ext.refl w4).al (.cells (u32s (List.replicate 8 0#32)).toArray 67)
          obtain ⟨g8, hg8⟩ : ∃ g8, g8 = w4.heap.size := ⟨_, rfl⟩
          rw [← hg8] at H T1
          have hs8 : gs < g8 := by have := S4.lt; omega
          have hw8 : gw < g8 := by have := World.block_lt_of_cell? w4 _ (hgw 0 (by omega)); simp only at this; omega
          have hp8 : gp < g8 := by have := E4.sz; omega
          have hsz7 := E7.sz
          have S5 := S4.ext EA
          have D6 := D5.ext EA
          have O8 := Ext.row EA O7
          have hgw : ∀ j, j < 64 → (w4.alloc (.cells (u32s (List.replicate 8 0#32)).toArray 67)).cell? ⟨gw, j, none⟩ = some (.int .u32 (wn (wat (sch bl 48) j))) := fun j hj => Ext.cell EA (hgw j hj)
          clear S4 D5 O7 E7 EA
          generalize w4.alloc (.cells (u32s (List.replicate 8 0#32)).toArray 67) = w5 at *
          obtain ⟨s, hs⟩ : ∃ s, s = blk (padded p) q := ⟨_, rfl⟩
          rw [← hs] at S5 H
          refine e_st H rfl rfl (x_store H rfl rfl rfl (st_row T1 (by kernel_rfl) (by simp [u32s_len, S8.len]) (by rw [Array.all_eq_true_iff_forall_mem]; intro v hv; exact u32s_one _ v (by simpa using hv)))) ?_
          have T2 := T1.row (u32s s.l)
          have F8 : Frm [g8] w5 (w5.setRow g8 (u32s s.l).toArray) := (Frm.refl [g8] w5).row_ g8 _ (.inl (by simp))
          have T2 : Blk (w5.setRow g8 (u32s s.l).toArray) g8 67 (u32s (rnds s (sch bl 48) 0).l) := T2
          refine e_nil (hR.out _ _ ?_)
          clear hR R
          refine hK17 _ _ ?_
          clear hK17 K17
          refine wp_seq_k (fun K18 hK18 => ?_)
          refine wp_seq_k (fun K19 hK19 => ?_)
          refine e_region (fun R hR => ?_)
          refine e_op H rfl rfl (by decide) (x_assign H rfl rfl) ?_
          clear H a; intro a H
          refine e_nil (hR.out _ _ ?_)
          clear hR R
          refine hK19 _ _ ?_
          clear hK19 K19
          refine wp_block ?_
          refine wp_loop_ghost (fun n a w => ∃ i : Nat, i ≤ 64 ∧ n = 64 - i ∧ Has a 152 [(2, .pointer (some ⟨gd, 0, none⟩)), (3, .pointer (some ⟨gs, 0, none⟩)), (5, .slice (some ⟨gp, 0, none⟩) n5 c5), (6, .int .i64 ((64 * q : Nat) : Int)), (7, .slice (some ⟨gw, 0, none⟩) 64 cw), (8, .pointer (some ⟨g8, 0, none⟩)), (9, .int .i64 (i : Int))] ∧ Blk w g8 67 (u32s (rnds s (sch bl 48) i).l) ∧ Frm [g8] w5 w) (64) ?_ ?_
          · skip
            exact ⟨0, by omega, rfl, H.sub ⟨rfl, rfl, rfl, rfl, rfl, rfl, rfl, trivial⟩, T2, F8⟩
          · skip
            clear H a T2 F8 T1
            intro n a w hI
            obtain ⟨i, hi, rfl, H, T2, F8⟩ := hI
            rcases Nat.lt_or_ge i 64 with hlt2 | hge2
            · skip
              have lw : w.cell? ⟨gw, i, none⟩ = some (.int .u32 (wn (wat (sch bl 48) i))) := by
                have hc := hgw i hlt2
                have hl := World.block_lt_of_cell? w5 _ hc
                rw [← hc]
                exact World.cell?_of_block (a := ⟨gw, i, none⟩) (F8.block gw hl (by simp; omega))
              obtain ⟨S, hS⟩ : ∃ S, S = rnds s (sch bl 48) i := ⟨_, rfl⟩
              rw [← hS] at T2
              have ls : ∀ j, j < 8 → w.cell? ⟨g8, j, none⟩ = some (.int .u32 (wn (wat S.l j))) := fun j hj => by rw [T2.cell]; exact u32s_get _ _ hj
              refine wp_seq_k (fun K20 hK20 => ?_)
              refine wp_seq_k (fun K21 hK21 => ?_)
              refine e_region (fun R hR => ?_)
              refine e_op H rfl rfl (by decide) (x_move H rfl rfl) ?_
              clear H a; intro a H
              refine e_op H rfl rfl (by decide) (x_binI H rfl rfl rfl (b_lss (b := true) (dec_t (by omega)))) ?_
              clear H a; intro a H
              refine e_nil (hR.out _ _ ?_)
              clear hR R
              refine hK21 _ _ ?_
              clear hK21 K21
              refine c_true H rfl ?_
              refine wp_skip ?_
              refine hK20 _ _ ?_
              clear hK20 K20
              refine wp_seq_k (fun K22 hK22 => ?_)
              refine wp_block ?_
              refine wp_seq_k (fun K23 hK23 => ?_)
              refine e_quiet (by kernel_rfl) (by kernel_rfl) (fun R hR => ?_)
              refine s_op H rfl rfl (by decide) (x_indexAddr H rfl rfl rfl (i_arr0 (m := 0) Tryd.underlying67 Tryd.sizeOf66 rfl (by omega))) ?_
              clear H a; intro a H
              refine s_op H rfl rfl (by decide) (x_load H rfl rfl (l_cell Tryd.isAgg66 (ls 0 (by omega)))) ?_
              clear H a; intro a H
              refine s_op H rfl rfl (by decide) (x_indexAddr H rfl rfl rfl (i_arr0 (m := 4) Tryd.underlying67 Tryd.sizeOf66 rfl (by omega))) ?_
              clear H a; intro a H
              refine s_op H rfl rfl (by decide) (x_load H rfl rfl (l_cell Tryd.isAgg66 (ls 4 (by omega)))) ?_
              clear H a; intro a H
              refine s_op H rfl rfl (by decide) (x_assign H rfl rfl) ?_
              clear H a; intro a H
              refine s_op H rfl rfl (by decide) (x_assign H rfl rfl) ?_
              clear H a; intro a H
              refine wpStill_nil (hR.out _ _ ?_)
              clear hR R
              replace H : Has a 152 [(2, .pointer (some ⟨gd, 0, none⟩)), (3, .pointer (some ⟨gs, 0, none⟩)), (5, .slice (some ⟨gp, 0, none⟩) n5 c5), (6, .int .i64 ((64 * q : Nat) : Int)), (7, .slice (some ⟨gw, 0, none⟩) 64 cw), (8, .pointer (some ⟨g8, 0, none⟩)), (9, .int .i64 (i : Int)), (10, .int .u32 (wn S.a)), (11, .int .u32 (wn S.e))] := H.sub ⟨rfl, rfl, rfl, rfl, rfl, rfl, rfl, rfl, rfl, trivial⟩
              have ls : ∀ j, j < 8 → w.drew.cell? ⟨g8, j, none⟩ = some (.int .u32 (wn (wat S.l j))) := ls
              have lw : w.drew.cell? ⟨gw, i, none⟩ = some (.int .u32 (wn (wat (sch bl 48) i))) := lw
              have T2 : Blk w.drew g8 67 (u32s S.l) := T2
              have F8 := F8.dr
              generalize w.drew = w at *
              refine hK23 _ _ ?_
              clear hK23 K23
              refine wp_seq_k (fun K24 hK24 => ?_)
              refine e_quietN (by kernel_rfl) (by kernel_rfl) (fun R hR => ?_)
              refine q_op H rfl rfl (by decide) (fun nq => (x_indexAddr H rfl rfl rfl (i_arr0 (m := 7) Tryd.underlying67 Tryd.sizeOf66 rfl (by omega)))) ?_
              clear H a; intro a H
              refine q_op H rfl rfl (by decide) (fun nq => (x_load H rfl rfl (l_cell Tryd.isAgg66 (ls 7 (by omega))))) ?_
              clear H a; intro a H
              refine q_op H rfl rfl (by decide) (fun nq => (x_move H rfl rfl)) ?_
              clear H a; intro a H
              refine q_call H rfl rfl (by decide) rfl rfl (Tryd.call42 _) (fun nq => (rotr42_any S.e 6 _ (by omega) (by omega)).mono (fun e w2 h => ⟨h.1, 1, h.2⟩)) ?_
              clear H a; intro a H
              refine q_op H rfl rfl (by decide) (fun nq => (x_move H rfl rfl)) ?_
              clear H a; intro a H
              refine q_call H rfl rfl (by decide) rfl rfl (Tryd.call42 _) (fun nq => (rotr42_any S.e 11 _ (by omega) (by omega)).mono (fun e w2 h => ⟨h.1, 1, h.2⟩)) ?_
              clear H a; intro a H
              refine q_op H rfl rfl (by decide) (fun nq => (x_binI H rfl rfl rfl (b_xor (z := wn (rr S.e 6 ^^^ rr S.e 11)) (xor_wn _ _)))) ?_
              clear H a; intro a H
              refine q_op H rfl rfl (by decide) (fun nq => (x_move H rfl rfl)) ?_
              clear H a; intro a H
              refine q_call H rfl rfl (by decide) rfl rfl (Tryd.call42 _) (fun nq => (rotr42_any S.e 25 _ (by omega) (by omega)).mono (fun e w2 h => ⟨h.1, 1, h.2⟩)) ?_
              clear H a; intro a H
              refine q_op H rfl rfl (by decide) (fun nq => (x_binI H rfl rfl rfl (b_xor (z := wn (bg1 S.e)) (xor_wn _ _)))) ?_
              clear H a; intro a H
              refine q_op H rfl rfl (by decide) (fun nq => (x_binI H rfl rfl rfl (b_add (z := wn (S.h + bg1 S.e)) (add_wn _ _)))) ?_
              clear H a; intro a H
              refine q_op H rfl rfl (by decide) (fun nq => (x_move H rfl rfl)) ?_
              clear H a; intro a H
              refine q_op H rfl rfl (by decide) (fun nq => (x_indexAddr H rfl rfl rfl (i_arr0 (m := 5) Tryd.underlying67 Tryd.sizeOf66 rfl (by omega)))) ?_
              clear H a; intro a H
              refine q_op H rfl rfl (by decide) (fun nq => (x_load H rfl rfl (l_cell Tryd.isAgg66 (ls 5 (by omega))))) ?_
              clear H a; intro a H
              refine q_op H rfl rfl (by decide) (fun nq => (x_binI H rfl rfl rfl (b_and (z := wn (S.e &&& S.f)) (and_wn _ _)))) ?_
              clear H a; intro a H
              refine q_op H rfl rfl (by decide) (fun nq => (x_move H rfl rfl)) ?_
              clear H a; intro a H
              refine q_op H rfl rfl (by decide) (fun nq => (x_un H rfl rfl (u_xor (z := wn (~~~ S.e)) (not_wn _)))) ?_
              clear H a; intro a H
              refine q_op H rfl rfl (by decide) (fun nq => (x_indexAddr H rfl rfl rfl (i_arr0 (m := 6) Tryd.underlying67 Tryd.sizeOf66 rfl (by omega)))) ?_
              clear H a; intro a H
              refine q_op H rfl rfl (by decide) (fun nq => (x_load H rfl rfl (l_cell Tryd.isAgg66 (ls 6 (by omega))))) ?_
              clear H a; intro a H
              refine q_op H rfl rfl (by decide) (fun nq => (x_binI H rfl rfl rfl (b_and (z := wn (~~~ S.e &&& S.g)) (and_wn _ _)))) ?_
              clear H a; intro a H
              refine q_op H rfl rfl (by decide) (fun nq => (x_binI H rfl rfl rfl (b_xor (z := wn (cho S.e S.f S.g)) (xor_wn _ _)))) ?_
              clear H a; intro a H
              refine q_op H rfl rfl (by decide) (fun nq => (x_binI H rfl rfl rfl (b_add (z := wn (S.h + bg1 S.e + cho S.e S.f S.g)) (add_wn _ _)))) ?_
              clear H a; intro a H
              refine q_op H rfl rfl (by decide) (fun nq => (x_move H rfl rfl)) ?_
              clear H a; intro a H
              refine q_op H rfl rfl (by decide) (fun nq => (x_binI H rfl rfl rfl (b_add (z := ((8 + i : Nat) : Int)) (by rw [IntKind.wrap_i64]; omega)))) ?_
              clear H a; intro a H
              refine q_call H rfl rfl (by decide) rfl rfl (Tryd.call39 _) (fun nq => (constant_any (8 + i) (by omega) _).mono (fun e w2 h => ⟨h.1, 0, h.2⟩)) ?_
              clear H a; intro a H
              refine q_op H rfl rfl (by decide) (fun nq => (x_binI H rfl rfl rfl (b_add (z := wn (S.h + bg1 S.e + cho S.e S.f S.g + wat kc i)) (by rw [kall_hi]; exact add_wn _ _)))) ?_
              clear H a; intro a H
              refine q_op H rfl rfl (by decide) (fun nq => (x_move H rfl rfl)) ?_
              clear H a; intro a H
              refine q_op H rfl rfl (by decide) (fun nq => (x_move H rfl rfl)) ?_
              clear H a; intro a H
              refine q_op H rfl rfl (by decide) (fun nq => (x_indexAddr H rfl rfl rfl (i_sl0 (m := i) Tryd.underlying69 Tryd.sizeOf66 rfl (by omega)))) ?_
              clear H a; intro a H
              refine q_op H rfl rfl (by decide) (fun nq => (x_load H rfl rfl (l_cell Tryd.isAgg66 (lw)))) ?_
              clear H a; intro a H
              refine q_op H rfl rfl (by decide) (fun nq => (x_binI H rfl rfl rfl (b_add (z := wn (tt1 S (wat kc i) (wat (sch bl 48) i))) (add_wn _ _)))) ?_
              clear H a; intro a H
              refine q_op H rfl rfl (by decide) (fun nq => (x_assign H rfl rfl)) ?_
              clear H a; intro a H
              refine wpQuiet_nil (fun nq => hR.out _ _ ?_)
              clear hR R
              obtain ⟨T, hT⟩ : ∃ T, T = tt1 S (wat kc i) (wat (sch bl 48) i) := ⟨_, rfl⟩
              rw [← hT] at H
              have ls : ∀ j, j < 8 → (w.drewN nq).cell? ⟨g8, j, none⟩ = some (.int .u32 (wn (wat S.l j))) := ls
              have T2 : Blk (w.drewN nq) g8 67 (u32s S.l) := T2
              have F8 := F8.drN nq
              generalize w.drewN nq = w at *
              refine hK24 _ _ ?_
              clear hK24 K24
              refine wp_seq_k (fun K25 hK25 => ?_)
              refine e_quietN (by kernel_rfl) (by kernel_rfl) (fun R hR => ?_)
              refine q_op H rfl rfl (by decide) (fun nq => (x_move H rfl rfl)) ?_
              clear H a; intro a H
              refine q_call H rfl rfl (by decide) rfl rfl (Tryd.call42 _) (fun nq => (rotr42_any S.a 2 _ (by omega) (by omega)).mono (fun e w2 h => ⟨h.1, 1, h.2⟩)) ?_
              clear H a; intro a H
              refine q_op H rfl rfl (by decide) (fun nq => (x_move H rfl rfl)) ?_
              clear H a; intro a H
              refine q_call H rfl rfl (by decide) rfl rfl (Tryd.call42 _) (fun nq => (rotr42_any S.a 13 _ (by omega) (by omega)).mono (fun e w2 h => ⟨h.1, 1, h.2⟩)) ?_
              clear H a; intro a H
              refine q_op H rfl rfl (by decide) (fun nq => (x_binI H rfl rfl rfl (b_xor (z := wn (rr S.a 2 ^^^ rr S.a 13)) (xor_wn _ _)))) ?_
              clear H a; intro a H
              refine q_op H rfl rfl (by decide) (fun nq => (x_move H rfl rfl)) ?_
              clear H a; intro a H
              refine q_call H rfl rfl (by decide) rfl rfl (Tryd.call42 _) (fun nq => (rotr42_any S.a 22 _ (by omega) (by omega)).mono (fun e w2 h => ⟨h.1, 1, h.2⟩)) ?_
              clear H a; intro a H
              refine q_op H rfl rfl (by decide) (fun nq => (x_binI H rfl rfl rfl (b_xor (z := wn (bg0 S.a)) (xor_wn _ _)))) ?_
              clear H a; intro a H
              refine q_op H rfl rfl (by decide) (fun nq => (x_move H rfl rfl)) ?_
              clear H a; intro a H
              refine q_op H rfl rfl (by decide) (fun nq => (x_indexAddr H rfl rfl rfl (i_arr0 (m := 1) Tryd.underlying67 Tryd.sizeOf66 rfl (by omega)))) ?_
              clear H a; intro a H
              refine q_op H rfl rfl (by decide) (fun nq => (x_load H rfl rfl (l_cell Tryd.isAgg66 (ls 1 (by omega))))) ?_
              clear H a; intro a H
              refine q_op H rfl rfl (by decide) (fun nq => (x_binI H rfl rfl rfl (b_and (z := wn (S.a &&& S.b)) (and_wn _ _)))) ?_
              clear H a; intro a H
              refine q_op H rfl rfl (by decide) (fun nq => (x_move H rfl rfl)) ?_
              clear H a; intro a H
              refine q_op H rfl rfl (by decide) (fun nq => (x_indexAddr H rfl rfl rfl (i_arr0 (m := 2) Tryd.underlying67 Tryd.sizeOf66 rfl (by omega)))) ?_
              clear H a; intro a H
              refine q_op H rfl rfl (by decide) (fun nq => (x_load H rfl rfl (l_cell Tryd.isAgg66 (ls 2 (by omega))))) ?_
              clear H a; intro a H
              refine q_op H rfl rfl (by decide) (fun nq => (x_binI H rfl rfl rfl (b_and (z := wn (S.a &&& S.c)) (and_wn _ _)))) ?_
              clear H a; intro a H
              refine q_op H rfl rfl (by decide) (fun nq => (x_binI H rfl rfl rfl (b_xor (z := wn ((S.a &&& S.b) ^^^ (S.a &&& S.c))) (xor_wn _ _)))) ?_
              clear H a; intro a H
              refine q_op H rfl rfl (by decide) (fun nq => (x_indexAddr H rfl rfl rfl (i_arr0 (m := 1) Tryd.underlying67 Tryd.sizeOf66 rfl (by omega)))) ?_
              clear H a; intro a H
              refine q_op H rfl rfl (by decide) (fun nq => (x_load H rfl rfl (l_cell Tryd.isAgg66 (ls 1 (by omega))))) ?_
              clear H a; intro a H
              refine q_op H rfl rfl (by decide) (fun nq => (x_indexAddr H rfl rfl rfl (i_arr0 (m := 2) Tryd.underlying67 Tryd.sizeOf66 rfl (by omega)))) ?_
              clear H a; intro a H
              refine q_op H rfl rfl (by decide) (fun nq => (x_load H rfl rfl (l_cell Tryd.isAgg66 (ls 2 (by omega))))) ?_
              clear H a; intro a H
              refine q_op H rfl rfl (by decide) (fun nq => (x_binI H rfl rfl rfl (b_and (z := wn (S.b &&& S.c)) (and_wn _ _)))) ?_
              clear H a; intro a H
              refine q_op H rfl rfl (by decide) (fun nq => (x_binI H rfl rfl rfl (b_xor (z := wn (maj S.a S.b S.c)) (xor_wn _ _)))) ?_
              clear H a; intro a H
              refine q_op H rfl rfl (by decide) (fun nq => (x_binI H rfl rfl rfl (b_add (z := wn (tt2 S)) (add_wn _ _)))) ?_
              clear H a; intro a H
              refine q_op H rfl rfl (by decide) (fun nq => (x_assign H rfl rfl)) ?_
              clear H a; intro a H
              refine wpQuiet_nil (fun nq => hR.out _ _ ?_)
              clear hR R
              have ls : ∀ j, j < 8 → (w.drewN nq).cell? ⟨g8, j, none⟩ = some (.int .u32 (wn (wat S.l j))) := ls
              have T2 : Blk (w.drewN nq) g8 67 (u32s S.l) := T2
              have F8 := F8.drN nq
              generalize w.drewN nq = w at *
              refine hK25 _ _ ?_
              clear hK25 K25
              refine e_region (fun R hR => ?_)
              refine e_op H rfl rfl (by decide) (x_move H rfl rfl) ?_
              clear H a; intro a H
              refine e_op H rfl rfl (by decide) (x_move H rfl rfl) ?_
              clear H a; intro a H
              refine e_op H rfl rfl (by decide) (x_binI H rfl rfl rfl (b_add (z := wn (T + tt2 S)) (add_wn _ _))) ?_
              clear H a; intro a H
              refine e_op H rfl rfl (by decide) (x_indexAddr H rfl rfl rfl (i_arr0 (m := 0) Tryd.underlying67 Tryd.sizeOf66 rfl (by omega))) ?_
              clear H a; intro a H
              refine e_op H rfl rfl (by decide) (x_load H rfl rfl (l_cell Tryd.isAgg66 (ls 0 (by omega)))) ?_
              clear H a; intro a H
              refine e_op H rfl rfl (by decide) (x_indexAddr H rfl rfl rfl (i_arr0 (m := 1) Tryd.underlying67 Tryd.sizeOf66 rfl (by omega))) ?_
              clear H a; intro a H
              refine e_op H rfl rfl (by decide) (x_load H rfl rfl (l_cell Tryd.isAgg66 (ls 1 (by omega)))) ?_
              clear H a; intro a H
              refine e_op H rfl rfl (by decide) (x_indexAddr H rfl rfl rfl (i_arr0 (m := 2) Tryd.underlying67 Tryd.sizeOf66 rfl (by omega))) ?_
              clear H a; intro a H
              refine e_op H rfl rfl (by decide) (x_load H rfl rfl (l_cell Tryd.isAgg66 (ls 2 (by omega)))) ?_
              clear H a; intro a H
              refine e_op H rfl rfl (by decide) (x_indexAddr H rfl rfl rfl (i_arr0 (m := 3) Tryd.underlying67 Tryd.sizeOf66 rfl (by omega))) ?_
              clear H a; intro a H
              refine e_op H rfl rfl (by decide) (x_load H rfl rfl (l_cell Tryd.isAgg66 (ls 3 (by omega)))) ?_
              clear H a; intro a H
              refine e_op H rfl rfl (by decide) (x_move H rfl rfl) ?_
              clear H a; intro a H
              refine e_op H rfl rfl (by decide) (x_binI H rfl rfl rfl (b_add (z := wn (S.d + T)) (add_wn _ _))) ?_
              clear H a; intro a H
              refine e_op H rfl rfl (by decide) (x_indexAddr H rfl rfl rfl (i_arr0 (m := 4) Tryd.underlying67 Tryd.sizeOf66 rfl (by omega))) ?_
              clear H a; intro a H
              refine e_op H rfl rfl (by decide) (x_load H rfl rfl (l_cell Tryd.isAgg66 (ls 4 (by omega)))) ?_
              clear H a; intro a H
              refine e_op H rfl rfl (by decide) (x_indexAddr H rfl rfl rfl (i_arr0 (m := 5) Tryd.underlying67 Tryd.sizeOf66 rfl (by omega))) ?_
              clear H a; intro a H
              refine e_op H rfl rfl (by decide) (x_load H rfl rfl (l_cell Tryd.isAgg66 (ls 5 (by omega)))) ?_
              clear H a; intro a H
              refine e_op H rfl rfl (by decide) (x_indexAddr H rfl rfl rfl (i_arr0 (m := 6) Tryd.underlying67 Tryd.sizeOf66 rfl (by omega))) ?_
              clear H a; intro a H
              refine e_op H rfl rfl (by decide) (x_load H rfl rfl (l_cell Tryd.isAgg66 (ls 6 (by omega)))) ?_
              clear H a; intro a H
              refine e_op H rfl rfl (by decide) (x_build (v := .agg (u32s (rnd S (wat kc i) (wat (sch bl 48) i)).l).toArray) H rfl rfl (run_build _ 67 _ _ (by rw [hT]; kernel_rfl))) ?_
              clear H a; intro a H
              refine e_st H rfl rfl (x_store H rfl rfl rfl (st_row T2 (by kernel_rfl) (by simp [u32s_len, S8.len]) (by rw [Array.all_eq_true_iff_forall_mem]; intro v hv; exact u32s_one _ v (by simpa using hv)))) ?_
              have T3 := T2.row (u32s (rnd S (wat kc i) (wat (sch bl 48) i)).l)
              have F9 := F8.row_ g8 (u32s (rnd S (wat kc i) (wat (sch bl 48) i)).l).toArray (.inl (by simp))
              rw [hS] at T3 F9 ⊢
              refine e_nil (hR.out _ _ ?_)
              clear hR R
              refine hK22 _ _ ?_
              clear hK22 K22
              refine e_region (fun R hR => ?_)
              refine e_op H rfl rfl (by decide) (x_move H rfl rfl) ?_
              clear H a; intro a H
              refine e_op H rfl rfl (by decide) (x_binI H rfl rfl rfl (b_add (z := ((i + 1 : Nat) : Int)) (by rw [IntKind.wrap_i64]; omega))) ?_
              clear H a; intro a H
              refine e_op H rfl rfl (by decide) (x_assign H rfl rfl) ?_
              clear H a; intro a H
              refine e_nil (hR.out _ _ ?_)
              clear hR R
              exact ⟨64 - (i + 1), by omega, i + 1, by omega, rfl, H.sub ⟨rfl, rfl, rfl, rfl, rfl, rfl, rfl, trivial⟩, T3, F9⟩
            · skip
              obtain rfl : i = 64 := by omega
              obtain ⟨r, hr⟩ : ∃ r, r = rnds s (sch bl 48) 64 := ⟨_, rfl⟩
              rw [← hr] at T2
              have S6 : Blk w gs 67 (u32s ((add8 s r).l.take 0 ++ s.l.drop 0)) := S5.frm F8 (by simp; omega)
              have D7 := D6.frm F8 (by simp; omega)
              have O9 := Ow.frm O8 F8 (fun b off e => by simp only [Option.some.injEq, Addr.mk.injEq] at e; simp; omega)
              have E9 := F8.ext E8 (fun x hx => by simp only [List.mem_singleton] at hx; omega)
              clear hgw
              obtain ⟨wB, rfl⟩ : ∃ wB, wB = w := ⟨_, rfl⟩
              refine wp_seq_k (fun K26 hK26 => ?_)
              refine wp_seq_k (fun K27 hK27 => ?_)
              refine e_region (fun R hR => ?_)
              refine e_op H rfl rfl (by decide) (x_move H rfl rfl) ?_
              clear H a; intro a H
              refine e_op H rfl rfl (by decide) (x_binI H rfl rfl rfl (b_lss (b := false) (dec_f (by omega)))) ?_
              clear H a; intro a H
              refine e_nil (hR.out _ _ ?_)
              clear hR R
              refine hK27 _ _ ?_
              clear hK27 K27
              refine c_false H rfl ?_
              refine wp_exit ?_
              refine t_exit ?_
              refine t_exit ?_
              refine b_hit ?_
              clear hK26 K26
              refine hK18 _ _ ?_
              clear hK18 K18
              refine wp_seq_k (fun K28 hK28 => ?_)
              refine e_region (fun R hR => ?_)
              refine e_op H rfl rfl (by decide) (x_assign H rfl rfl) ?_
              clear H a; intro a H
              refine e_nil (hR.out _ _ ?_)
              clear hR R
              refine hK28 _ _ ?_
              clear hK28 K28
              refine wp_block ?_
              refine wp_loop_ghost (fun n a w => ∃ i : Nat, i ≤ 8 ∧ n = 8 - i ∧ Has a 152 [(2, .pointer (some ⟨gd, 0, none⟩)), (3, .pointer (some ⟨gs, 0, none⟩)), (5, .slice (some ⟨gp, 0, none⟩) n5 c5), (6, .int .i64 ((64 * q : Nat) : Int)), (8, .pointer (some ⟨g8, 0, none⟩)), (14, .int .i64 (i : Int))] ∧ Blk w gs 67 (u32s ((add8 s r).l.take i ++ s.l.drop i)) ∧ Frm [gs] wB w) (8) ?_ ?_
              · skip
                exact ⟨0, by omega, rfl, H.sub ⟨rfl, rfl, rfl, rfl, rfl, rfl, trivial⟩, S6, Frm.refl _ _⟩
              · skip
                clear H a S6
                intro n a w hI
                obtain ⟨i, hi, rfl, H, S6, F6⟩ := hI
                have T6 := T2.frm F6 (by simp; omega)
                rcases Nat.lt_or_ge i 8 with hlt2 | hge2
                · skip
                  have lw : w.cell? ⟨gs, i, none⟩ = some (.int .u32 (wn (wat s.l i))) := by
                    rw [S6.cell, u32s_get _ _ (by simp [S8.len]; omega), wat_take (add8 s r).l s.l i (by rw [S8.len]; exact hlt2)]
                  have lt : w.cell? ⟨g8, i, none⟩ = some (.int .u32 (wn (wat r.l i))) := by rw [T6.cell]; exact u32s_get _ _ hlt2
                  refine wp_seq_k (fun K29 hK29 => ?_)
                  refine wp_seq_k (fun K30 hK30 => ?_)
                  refine e_region (fun R hR => ?_)
                  refine e_op H rfl rfl (by decide) (x_move H rfl rfl) ?_
                  clear H a; intro a H
                  refine e_op H rfl rfl (by decide) (x_binI H rfl rfl rfl (b_lss (b := true) (dec_t (by omega)))) ?_
                  clear H a; intro a H
                  refine e_nil (hR.out _ _ ?_)
                  clear hR R
                  refine hK30 _ _ ?_
                  clear hK30 K30
                  refine c_true H rfl ?_
                  refine wp_skip ?_
                  refine hK29 _ _ ?_
                  clear hK29 K29
                  refine wp_seq_k (fun K31 hK31 => ?_)
                  refine wp_block ?_
                  refine e_tail 8 (by kernel_rfl) (by kernel_rfl) (fun R hR => ?_)
                  simp only [List.take_succ_cons, List.take_zero, List.drop_succ_cons, List.drop_zero]
                  refine s_op H rfl rfl (by decide) (x_move H rfl rfl) ?_
                  clear H a; intro a H
                  refine s_op H rfl rfl (by decide) (x_indexAddr H rfl rfl rfl (i_arr0 (m := i) Tryd.underlying67 Tryd.sizeOf66 rfl (by omega))) ?_
                  clear H a; intro a H
                  refine s_op H rfl rfl (by decide) (x_load H rfl rfl (l_cell Tryd.isAgg66 (lw))) ?_
                  clear H a; intro a H
                  refine s_op H rfl rfl (by decide) (x_move H rfl rfl) ?_
                  clear H a; intro a H
                  refine s_op H rfl rfl (by decide) (x_indexAddr H rfl rfl rfl (i_arr0 (m := i) Tryd.underlying67 Tryd.sizeOf66 rfl (by omega))) ?_
                  clear H a; intro a H
                  refine s_op H rfl rfl (by decide) (x_load H rfl rfl (l_cell Tryd.isAgg66 (lt))) ?_
                  clear H a; intro a H
                  refine s_op H rfl rfl (by decide) (x_binI H rfl rfl rfl (b_add (z := wn (wat (add8 s r).l i)) (by rw [add8_at s r i hlt2]; exact add_wn _ _))) ?_
                  clear H a; intro a H
                  refine s_op H rfl rfl (by decide) (x_indexAddr H rfl rfl rfl (i_arr0 (m := i) Tryd.underlying67 Tryd.sizeOf66 rfl (by omega))) ?_
                  clear H a; intro a H
                  refine wpStill_nil ?_
                  refine e_st H rfl rfl (x_store H rfl rfl rfl (st_cell rfl rfl Tryd.sizeOf66 (S6.drew.frozen i) (S6.drew.isSome i (by simp [u32s_len, S8.len]; omega)))) ?_
                  have S7 := S6.drew.set_ i (.int .u32 (wn (wat (add8 s r).l i)))
                  rw [u32s_set, take_set (add8 s r).l s.l i (by rw [S8.len]; exact hlt2) rfl] at S7
                  have F7 := F6.dr.st gs i (.int .u32 (wn (wat (add8 s r).l i))) (.inl (by simp))
                  refine e_nil (hR.out _ _ ?_)
                  clear hR R
                  refine hK31 _ _ ?_
                  clear hK31 K31
                  refine e_region (fun R hR => ?_)
                  refine e_op H rfl rfl (by decide) (x_move H rfl rfl) ?_
                  clear H a; intro a H
                  refine e_op H rfl rfl (by decide) (x_binI H rfl rfl rfl (b_add (z := ((i + 1 : Nat) : Int)) (by rw [IntKind.wrap_i64]; omega))) ?_
                  clear H a; intro a H
                  refine e_op H rfl rfl (by decide) (x_assign H rfl rfl) ?_
                  clear H a; intro a H
                  refine e_nil (hR.out _ _ ?_)
                  clear hR R
                  exact ⟨8 - (i + 1), by omega, i + 1, by omega, rfl, H.sub ⟨rfl, rfl, rfl, rfl, rfl, rfl, trivial⟩, S7, F7⟩
                · skip
                  obtain rfl : i = 8 := by omega
                  refine wp_seq_k (fun K32 hK32 => ?_)
                  refine wp_seq_k (fun K33 hK33 => ?_)
                  refine e_region (fun R hR => ?_)
                  refine e_op H rfl rfl (by decide) (x_move H rfl rfl) ?_
                  clear H a; intro a H
                  refine e_op H rfl rfl (by decide) (x_binI H rfl rfl rfl (b_lss (b := false) (dec_f (by omega)))) ?_
                  clear H a; intro a H
                  refine e_nil (hR.out _ _ ?_)
                  clear hR R
                  refine hK33 _ _ ?_
                  clear hK33 K33
                  refine c_false H rfl ?_
                  refine wp_exit ?_
                  refine t_exit ?_
                  refine t_exit ?_
                  refine b_hit ?_
                  clear hK32 K32
                  refine hK15 _ _ ?_
                  clear hK15 K15
                  refine e_region (fun R hR => ?_)
                  refine e_op H rfl rfl (by decide) (x_move H rfl rfl) ?_
                  clear H a; intro a H
                  refine e_op H rfl rfl (by decide) (x_binI H rfl rfl rfl (b_add (z := ((64 * (q + 1) : Nat) : Int)) (by rw [IntKind.wrap_i64]; omega))) ?_
                  clear H a; intro a H
                  refine e_op H rfl rfl (by decide) (x_assign H rfl rfl) ?_
                  clear H a; intro a H
                  refine e_nil (hR.out _ _ ?_)
                  clear hR R
                  refine ⟨Q - (q + 1), by omega, q + 1, by omega, rfl, H.sub ⟨rfl, rfl, rfl, rfl, trivial⟩, ?_, D7.frm F6 (by simp; omega), Ow.frm O9 F6 (fun b off e => by simp only [Option.some.injEq, Addr.mk.injEq] at e; have := hO5 gp 0 rfl; simp; omega), F6.ext E9 (fun x hx => by simp only [List.mem_singleton] at hx; omega)⟩
                  have e1 : blk (padded p) (q + 1) = add8 s r := by rw [hr, hs, hbl]; rfl
                  rw [e1]
                  simpa [S8.l] using S6
        · skip
          obtain rfl : q = Q := by omega
          refine wp_seq_k (fun K34 hK34 => ?_)
          refine wp_seq_k (fun K35 hK35 => ?_)
          refine e_region (fun R hR => ?_)
          refine e_op H rfl rfl (by decide) (x_move H rfl rfl) ?_
          clear H a; intro a H
          refine e_op H rfl rfl (by decide) (x_move H rfl rfl) ?_
          clear H a; intro a H
          refine e_op H rfl rfl (by decide) (x_builtin H rfl rfl (fun cs => len_sl Tryd.underlying22)) ?_
          clear H a; intro a H
          refine e_op H rfl rfl (by decide) (x_binI H rfl rfl rfl (b_lss (b := false) (dec_f (by omega)))) ?_
          clear H a; intro a H
          refine e_nil (hR.out _ _ ?_)
          clear hR R
          refine hK35 _ _ ?_
          clear hK35 K35
          refine c_false H rfl ?_
          refine wp_exit ?_
          refine t_exit ?_
          refine t_exit ?_
          refine b_hit ?_
          clear hK34 K34
          refine hK11 _ _ ?_
          clear hK11 K11
          refine wp_seq_k (fun K36 hK36 => ?_)
          refine e_region (fun R hR => ?_)
          refine e_op H rfl rfl (by decide) (x_alloc H rfl (al_new (z25 _))) ?_
          clear H a; intro a H
          have P1 := Blk.new w 25 (u8s (List.replicate 32 0))
          have EA := (Ext.refl w).al (.cells (u8s (List.replicate 32 0)).toArray 25)
          have S3 := S2.ext EA
          have D5 := D4.ext EA
          have E7 := E6.tr EA
          obtain ⟨gf, hgf⟩ : ∃ gf, gf = w.heap.size := ⟨_, rfl⟩
          rw [← hgf] at H P1
          have hsf : gs < gf := by have := S2.lt; omega
          clear S2 D4 E6 EA O6 hO5
          generalize w.alloc (.cells (u8s (List.replicate 32 0)).toArray 25) = w7 at *
          obtain ⟨S, hS⟩ : ∃ S, S = blk (padded p) q := ⟨_, rfl⟩
          rw [← hS] at S3
          refine e_nil (hR.out _ _ ?_)
          clear hR R
          refine hK36 _ _ ?_
          clear hK36 K36
          refine wp_seq_k (fun K37 hK37 => ?_)
          refine wp_seq_k (fun K38 hK38 => ?_)
          refine e_region (fun R hR => ?_)
          refine e_op H rfl rfl (by decide) (x_assign H rfl rfl) ?_
          clear H a; intro a H
          refine e_nil (hR.out _ _ ?_)
          clear hR R
          refine hK38 _ _ ?_
          clear hK38 K38
          refine wp_block ?_
          refine wp_loop_ghost (fun n a w => ∃ i : Nat, i ≤ 32 ∧ n = 32 - i ∧ Has a 152 [(2, .pointer (some ⟨gd, 0, none⟩)), (3, .pointer (some ⟨gs, 0, none⟩)), (15, .pointer (some ⟨gf, 0, none⟩)), (16, .int .i64 (i : Int))] ∧ Blk w gf 25 (u8s ((out8 S).take i ++ List.replicate (32 - i) 0)) ∧ Frm [gf] w7 w) (32) ?_ ?_
          · skip
            exact ⟨0, by omega, rfl, H.sub ⟨rfl, rfl, rfl, rfl, trivial⟩, P1, Frm.refl _ _⟩
          · skip
            clear H a P1
            intro n a w hI
            obtain ⟨i, hi, rfl, H, P1, F7⟩ := hI
            have S4 := S3.frm F7 (by simp; omega)
            have D6 := D5.frm F7 (by simp; omega)
            have E8 := F7.ext E7 (fun x hx => by simp only [List.mem_singleton] at hx; omega)
            rcases Nat.lt_or_ge i 32 with hlt | hge
            · skip
              have htl : ((out8 S).take i).length = i := by rw [List.length_take, out8_len]; omega
              obtain ⟨x, hx⟩ : ∃ x, x = wat S.l (i / 4) := ⟨_, rfl⟩
              have lx : w.cell? ⟨gs, i / 4, none⟩ = some (.int .u32 (wn x)) := by rw [S4.cell, u32s_get _ _ (by rw [S8.len]; omega), hx]
              have ho := out8_at S i hlt
              rw [← hx] at ho
              refine wp_seq_k (fun K39 hK39 => ?_)
              refine wp_seq_k (fun K40 hK40 => ?_)
              refine e_region (fun R hR => ?_)
              refine e_op H rfl rfl (by decide) (x_move H rfl rfl) ?_
              clear H a; intro a H
              refine e_op H rfl rfl (by decide) (x_binI H rfl rfl rfl (b_lss (b := true) (dec_t (by omega)))) ?_
              clear H a; intro a H
              refine e_nil (hR.out _ _ ?_)
              clear hR R
              refine hK40 _ _ ?_
              clear hK40 K40
              refine c_true H rfl ?_
              refine wp_skip ?_
              refine hK39 _ _ ?_
              clear hK39 K39
              refine wp_seq_k (fun K41 hK41 => ?_)
              refine wp_block ?_
              refine e_region (fun R hR => ?_)
              refine e_op H rfl rfl (by decide) (x_move H rfl rfl) ?_
              clear H a; intro a H
              refine e_op H rfl rfl (by decide) (x_move H rfl rfl) ?_
              clear H a; intro a H
              refine e_op H rfl rfl (by decide) (x_binI H rfl rfl rfl (b_quo (z := ((i / 4 : Nat) : Int)) (by decide) (by rw [Int.tdiv_eq_ediv_of_nonneg (by omega), IntKind.wrap_i64]; omega))) ?_
              clear H a; intro a H
              refine e_op H rfl rfl (by decide) (x_indexAddr H rfl rfl rfl (i_arr0 (m := i / 4) Tryd.underlying67 Tryd.sizeOf66 rfl (by omega))) ?_
              clear H a; intro a H
              refine e_op H rfl rfl (by decide) (x_load H rfl rfl (l_cell Tryd.isAgg66 (lx))) ?_
              clear H a; intro a H
              refine e_op H rfl rfl (by decide) (x_move H rfl rfl) ?_
              clear H a; intro a H
              refine e_op H rfl rfl (by decide) (x_binI H rfl rfl rfl (b_rem (z := ((i % 4 : Nat) : Int)) (by decide) (by rw [Int.tmod_eq_emod_of_nonneg (by omega)]; omega))) ?_
              clear H a; intro a H
              refine e_op H rfl rfl (by decide) (x_binI H rfl rfl rfl (b_mul (z := ((8 * (i % 4) : Nat) : Int)) (by rw [IntKind.wrap_i64]; omega))) ?_
              clear H a; intro a H
              refine e_op H rfl rfl (by decide) (x_binI H rfl rfl rfl (b_sub (z := ((24 - 8 * (i % 4) : Nat) : Int)) (by rw [IntKind.wrap_i64]; omega))) ?_
              clear H a; intro a H
              refine e_op H rfl rfl (by decide) (x_binI H rfl rfl rfl (b_shr (z := ((x.toNat / 2 ^ (24 - 8 * (i % 4)) : Nat) : Int)) (by omega) (shr_b x (24 - 8 * (i % 4)) (by omega) rfl))) ?_
              clear H a; intro a H
              refine e_op H rfl rfl (by decide) (x_conv H rfl rfl (c_int (z := ((UInt8.ofNat (x.toNat / 2 ^ (24 - 8 * (i % 4)))).toNat : Int)) Tryd.underlying66 Tryd.underlying5 (wrap_u8_nat _))) ?_
              clear H a; intro a H
              refine e_op H rfl rfl (by decide) (x_indexAddr H rfl rfl rfl (i_arr0 (m := i) Tryd.underlying25 Tryd.sizeOf5 rfl (by omega))) ?_
              clear H a; intro a H
              refine e_st H rfl rfl (x_store H rfl rfl rfl (st_cell rfl rfl Tryd.sizeOf5 (P1.frozen i) (P1.isSome i (by simp [u8s_len, out8_len]; omega)))) ?_
              have P2 := P1.setU8 i (UInt8.ofNat (x.toNat / 2 ^ (24 - 8 * (i % 4))))
              rw [show 32 - i = (31 - i) + 1 by omega, fill_u8 _ _ _ _ htl, show (out8 S).take i ++ [UInt8.ofNat (x.toNat / 2 ^ (24 - 8 * (i % 4)))] = (out8 S).take (i + 1) by
                rw [List.take_succ_eq_append_getElem (by rw [out8_len]; exact hlt)]
                rw [List.getElem?_eq_getElem (by rw [out8_len]; exact hlt)] at ho
                simp only [Option.some.injEq] at ho
                rw [ho], show 31 - i = 32 - (i + 1) by omega] at P2
              have F8 := F7.st gf i (.int .u8 ((UInt8.ofNat (x.toNat / 2 ^ (24 - 8 * (i % 4)))).toNat : Int)) (.inl (by simp))
              refine e_nil (hR.out _ _ ?_)
              clear hR R
              refine hK41 _ _ ?_
              clear hK41 K41
              refine e_region (fun R hR => ?_)
              refine e_op H rfl rfl (by decide) (x_move H rfl rfl) ?_
              clear H a; intro a H
              refine e_op H rfl rfl (by decide) (x_binI H rfl rfl rfl (b_add (z := ((i + 1 : Nat) : Int)) (by rw [IntKind.wrap_i64]; omega))) ?_
              clear H a; intro a H
              refine e_op H rfl rfl (by decide) (x_assign H rfl rfl) ?_
              clear H a; intro a H
              refine e_nil (hR.out _ _ ?_)
              clear hR R
              exact ⟨32 - (i + 1), by omega, i + 1, by omega, rfl, H.sub ⟨rfl, rfl, rfl, rfl, trivial⟩, P2, F8⟩
            · skip
              obtain rfl : i = 32 := by omega
              have P1 : Blk w gf 25 (u8s (out8 S)) := by simpa [List.take_of_length_le, out8_len] using P1
              refine wp_seq_k (fun K42 hK42 => ?_)
              refine wp_seq_k (fun K43 hK43 => ?_)
              refine e_region (fun R hR => ?_)
              refine e_op H rfl rfl (by decide) (x_move H rfl rfl) ?_
              clear H a; intro a H
              refine e_op H rfl rfl (by decide) (x_binI H rfl rfl rfl (b_lss (b := false) (dec_f (by omega)))) ?_
              clear H a; intro a H
              refine e_nil (hR.out _ _ ?_)
              clear hR R
              refine hK43 _ _ ?_
              clear hK43 K43
              refine c_false H rfl ?_
              refine wp_exit ?_
              refine t_exit ?_
              refine t_exit ?_
              refine b_hit ?_
              clear hK42 K42
              refine hK37 _ _ ?_
              clear hK37 K37
              refine wp_seq_k (fun K44 hK44 => ?_)
              refine e_region (fun R hR => ?_)
              refine e_op H rfl rfl (by decide) (x_load H rfl rfl (l_row P1 Tryd.underlying25 rfl (by kernel_rfl))) ?_
              clear H a; intro a H
              refine e_st H rfl rfl (x_store H rfl rfl rfl (st_row D6 (by kernel_rfl) rfl (by kernel_rfl))) ?_
              refine e_nil (hR.out _ _ ?_)
              clear hR R
              refine hK44 _ _ ?_
              clear hK44 K44
              refine wp_ret ?_
              have hsha : out8 S = sha p := by rw [hS, hQ, ← hnl]; rfl
              refine retc H rfl rfl (setRow_heap _ _ _ _ 25 (0, 0) D6) Tryd.underlying25 rfl (by kernel_rfl) ⟨by rw [← hsha], E8.row_ (by omega) _⟩
end Go.Proofs.YtknllmcpogoeoaaDoor
