/- One move of a play, walked: an acknowledgement is sent. -/
import Derived.Test.YtknllmcpogoeoaaT22
namespace Go.Proofs.Ytknllmcpogoeoaa
open Go.RowKit
set_option linter.unusedVariables false
set_option linter.unusedSimpArgs false
set_option maxRecDepth 100000
theorem bs152z (w : World) : (Instr.buildSlice 152 0 #[]).run Try.prog w = .ok (.slice (some ⟨w.heap.size, 0, none⟩) 0 0) (w.alloc (.cells #[] 4)) := by kernel_rfl
theorem bs156 (a : Option Addr) (n c : Nat) (w : World) : (Instr.buildSlice 156 1 #[(0, .slice a n c)]).run Try.prog w = .ok (.slice (some ⟨w.heap.size, 0, none⟩) 1 1) (w.alloc (.cells [.slice a n c].toArray 152)) := by kernel_rfl
theorem do_tell (wB : World) (gw gs gr id : Nat) (file : List UInt8) (V : Wv) (p : Wp) (kd at_ bz : Nat) (st : Bool) (w0 : World) (D : Wd w0 wB.heap.size gw gs gr V p) (KK : Wok p id file) (E0 : Ext wB w0) (hkd : kd ≤ 255) (hat : at_ ≤ 65535) (hbz : bz ≤ 4294967295)
    (hK : kd % 10 = 7) : Calls Try.prog 102 #[.pointer (some ⟨gw, 0, none⟩), .agg #[.int .u8 (kd : Int), .int .u16 (at_ : Int), .bool st, .int .u32 (bz : Int)]] w0 (DoPost wB gw gs gr id file) := by
  have hhl := KK.hlen
  have hfll := KK.fll
  have hc := chunks_le hfll
  have hrid : p.r.id = p.s.id := KK.rof.id_.trans KK.sid.symm
  obtain ⟨ba, bc, hvb, _⟩ := D.rb.shape
  have hxb : V.xb.length = p.bck.length := by rw [D.eb.len, List.length_map]
  by_cases hlt : p.bck.length < 100
  · skip
    refine calls_has (args := [.pointer (some ⟨gw, 0, none⟩), .agg #[.int .u8 (kd : Int), .int .u16 (at_ : Int), .bool st, .int .u32 (bz : Int)]]) Try.func102 rfl Try.ntmps102 (Nat.le_of_ble_eq_true rfl) (fun a H => ?_)
    simp only [argl, Nat.reduceAdd] at H
    refine wp_seq_k (fun K1 hK1 => ?_)
    refine e_region (fun R hR => ?_)
    refine e_op H rfl rfl (by decide) (x_box H rfl rfl bx_new) ?_
    clear H a; intro a H
    have M0 := Blk.new w0 168 [.int .u8 (kd : Int), .int .u16 (at_ : Int), .bool st, .int .u32 (bz : Int)]
    have E1 := E0.al (.cells #[.int .u8 (kd : Int), .int .u16 (at_ : Int), .bool st, .int .u32 (bz : Int)] 168)
    have D1 := D.ext ((Ext.refl w0).al (.cells #[.int .u8 (kd : Int), .int .u16 (at_ : Int), .bool st, .int .u32 (bz : Int)] 168))
    obtain ⟨g3, hg3⟩ : ∃ g, g = w0.heap.size := ⟨_, rfl⟩
    rw [← hg3] at H M0
    generalize w0.alloc (.cells #[.int .u8 (kd : Int), .int .u16 (at_ : Int), .bool st, .int .u32 (bz : Int)] 168) = w1 at *
    clear D
    have D := D1
    clear D1
    refine e_op H rfl rfl (by decide) (x_assign H rfl rfl) ?_
    clear H a; intro a H
    refine e_nil (hR.out _ _ ?_)
    clear hR R
    refine hK1 _ _ ?_
    clear hK1 K1
    refine wp_seq_k (fun K2 hK2 => ?_)
    refine wp_seq_k (fun K3 hK3 => ?_)
    refine e_region (fun R hR => ?_)
    refine e_op H rfl rfl (by decide) (x_fieldAddr H rfl rfl (fa168_0 _ _)) ?_
    clear H a; intro a H
    refine e_op H rfl rfl (by decide) (x_load H rfl rfl (l_cell Try.isAgg5 (M0.at_ (i := 0) rfl))) ?_
    clear H a; intro a H
    refine e_op H rfl rfl (by decide) (x_binI H rfl rfl rfl (b_rem (z := ((kd % 10 : Nat) : Int)) (by decide) (by rw [Int.tmod_eq_emod_of_nonneg (by omega)]; omega))) ?_
    clear H a; intro a H
    refine e_op H rfl rfl (by decide) (x_assign H rfl rfl) ?_
    clear H a; intro a H
    refine e_nil (hR.out _ _ ?_)
    clear hR R
    refine hK3 _ _ ?_
    clear hK3 K3
    refine wp_block ?_
    refine wp_seq_k (fun K4 hK4 => ?_)
    refine e_region (fun R hR => ?_)
    refine e_op H rfl rfl (by decide) (x_move H rfl rfl) ?_
    clear H a; intro a H
    refine e_op H rfl rfl (by decide) (x_binI H rfl rfl rfl (b_lss (b := false) (dec_f (by omega)))) ?_
    clear H a; intro a H
    refine e_op H rfl rfl (by decide) (x_assign H rfl rfl) ?_
    clear H a; intro a H
    refine e_nil (hR.out _ _ ?_)
    clear hR R
    refine hK4 _ _ ?_
    clear hK4 K4
    refine c_false H rfl ?_
    refine wp_seq_k (fun K5 hK5 => ?_)
    refine e_region (fun R hR => ?_)
    refine e_op H rfl rfl (by decide) (x_move H rfl rfl) ?_
    clear H a; intro a H
    refine e_op H rfl rfl (by decide) (x_binI H rfl rfl rfl (b_lss (b := false) (dec_f (by omega)))) ?_
    clear H a; intro a H
    refine e_op H rfl rfl (by decide) (x_assign H rfl rfl) ?_
    clear H a; intro a H
    refine e_nil (hR.out _ _ ?_)
    clear hR R
    refine hK5 _ _ ?_
    clear hK5 K5
    refine c_false H rfl ?_
    refine wp_seq_k (fun K6 hK6 => ?_)
    refine e_region (fun R hR => ?_)
    refine e_op H rfl rfl (by decide) (x_move H rfl rfl) ?_
    clear H a; intro a H
    refine e_op H rfl rfl (by decide) (x_binI H rfl rfl rfl (b_eql (b := true) (beq_t (by omega)))) ?_
    clear H a; intro a H
    refine e_op H rfl rfl (by decide) (x_assign H rfl rfl) ?_
    clear H a; intro a H
    refine e_nil (hR.out _ _ ?_)
    clear hR R
    refine hK6 _ _ ?_
    clear hK6 K6
    refine c_true H rfl ?_
    refine wp_seq_k (fun K7 hK7 => ?_)
    refine e_region (fun R hR => ?_)
    refine e_op H rfl rfl (by decide) (x_move H rfl rfl) ?_
    clear H a; intro a H
    refine e_op H rfl rfl (by decide) (x_nilCheck H rfl rfl) ?_
    clear H a; intro a H
    refine e_op H rfl rfl (by decide) (x_fieldAddr H rfl rfl (fa158_6 _ _)) ?_
    clear H a; intro a H
    refine e_op H rfl rfl (by decide) (x_load H rfl rfl (l_cell (v := .slice ba V.xb.length bc) Try.isAgg37 (D.blk.at_ (i := 7) (by rw [← hvb]; rfl)))) ?_
    clear H a; intro a H
    refine e_op H rfl rfl (by decide) (x_builtin H rfl rfl (fun cs => len_sl Try.underlying37)) ?_
    clear H a; intro a H
    refine e_op H rfl rfl (by decide) (x_binI H rfl rfl rfl (b_lss (b := true) (dec_t (by omega)))) ?_
    clear H a; intro a H
    refine e_nil (hR.out _ _ ?_)
    clear hR R
    refine hK7 _ _ ?_
    clear hK7 K7
    refine c_true H rfl ?_
    refine wp_seq_k (fun K8 hK8 => ?_)
    obtain ⟨wd, hwd⟩ : ∃ x_, x_ = w1.drew := ⟨_, rfl⟩
    have Ewd : Ext w1 wd := by rw [hwd]; exact (Ext.refl _).dr
    replace D := D.ext Ewd
    replace E1 := E1.tr Ewd
    have HS := D.blk
    refine y_start (fun w' => Blk w' gw 158 (wCells gs gr V)) 14 (by kernel_rfl) (fun R hR => ?_)
    rw [← hwd]
    refine y_take 0 H rfl (wanted_none rfl) rfl (by decide) (by kernel_rfl) (by kernel_rfl) (by kernel_rfl) rfl (by kernel_rfl) (by decide) HS (fun w' hSw => (x_move H rfl rfl)) ?_
    clear H a; intro a H
    refine y_take 1 H rfl (wanted_none rfl) rfl (by decide) (by kernel_rfl) (by kernel_rfl) (by kernel_rfl) rfl (by kernel_rfl) (by decide) HS (fun w' hSw => (x_move H rfl rfl)) ?_
    clear H a; intro a H
    refine y_take 2 H rfl (wanted_none rfl) rfl (by decide) (by kernel_rfl) (by kernel_rfl) (by kernel_rfl) rfl (by kernel_rfl) (by decide) HS (fun w' hSw => (x_nilCheck H rfl rfl)) ?_
    clear H a; intro a H
    refine y_take 3 H rfl (wanted_none rfl) rfl (by decide) (by kernel_rfl) (by kernel_rfl) (by kernel_rfl) rfl (by kernel_rfl) (by decide) HS (fun w' hSw => (x_fieldAddr H rfl rfl (fa158_6 _ _))) ?_
    clear H a; intro a H
    refine y_take 4 H rfl (wanted_none rfl) rfl (by decide) (by kernel_rfl) (by kernel_rfl) (by kernel_rfl) rfl (by kernel_rfl) (by decide) HS (fun w' hSw => (x_load H rfl rfl (l_cell Try.isAgg37 (hSw.at_ (i := 7) rfl)))) ?_
    clear H a; intro a H
    refine y_take 5 H rfl (wanted_none rfl) rfl (by decide) (by kernel_rfl) (by kernel_rfl) (by kernel_rfl) rfl (by kernel_rfl) (by decide) HS (fun w' hSw => (x_move H rfl rfl)) ?_
    clear H a; intro a H
    refine y_take 6 H rfl (wanted_none rfl) rfl (by decide) (by kernel_rfl) (by kernel_rfl) (by kernel_rfl) rfl (by kernel_rfl) (by decide) HS (fun w' hSw => (x_nilCheck H rfl rfl)) ?_
    clear H a; intro a H
    refine y_take 7 H rfl (wanted_none rfl) rfl (by decide) (by kernel_rfl) (by kernel_rfl) (by kernel_rfl) rfl (by kernel_rfl) (by decide) HS (fun w' hSw => (x_fieldAddr H rfl rfl (fa158_1 _ _))) ?_
    clear H a; intro a H
    refine y_take 8 H rfl (wanted_none rfl) rfl (by decide) (by kernel_rfl) (by kernel_rfl) (by kernel_rfl) rfl (by kernel_rfl) (by decide) HS (fun w' hSw => (x_load H rfl rfl (l_cell Try.isAgg65 (hSw.at_ (i := 1) rfl)))) ?_
    clear H a; intro a H
    refine y_call 9 H rfl (by kernel_rfl) (wanted_none rfl) rfl (by decide) rfl rfl (Try.call57 _) (ack_any wB.heap.size gr V.vr p.r wd D.rv) ?_
    clear H a
    rintro e we ⟨ka, kc, rfl, OK, Ek⟩
    have hsp : ∀ k, V.vr.ownBlock = some k → (Value.slice ka (ackP p.r.id p.r.has).length kc).ownBlock ≠ some k := fun k hk e => by have := D.rv.own_lt k hk; have := (OK.rw_.blk k e).1; omega
    replace OK := OK.mono E1.sz
    replace D := D.ext Ek
    replace E1 := E1.tr Ek
    clear HS
    have HS := D.blk
    refine ⟨_, rfl, HS, fun a H => ?_⟩
    refine y_op 10 H rfl (by kernel_rfl) (wanted_none rfl) rfl (by decide) (x_buildSlice H rfl rfl (bs37 _ _ _ _)) (HS.ext ((Ext.refl _).al _)) ?_
    clear H a; intro a H
    obtain ⟨el, hel⟩ : ∃ el, el = Value.slice ka (ackP p.r.id p.r.has).length kc := ⟨_, rfl⟩
    have Eal := (Ext.refl we).al (.cells [el].toArray 22)
    have RN := Rw.new we 0 22 [el] (Nat.zero_le _) (by simp)
    rw [← hel] at H hsp ⊢
    obtain ⟨wf, hwf⟩ : ∃ x, x = we.alloc (.cells [el].toArray 22) := ⟨_, rfl⟩
    rw [← hwf] at RN Eal ⊢
    replace D := D.ext Eal
    replace E1 := E1.tr Eal
    replace OK := OK.ext_ Eal
    obtain ⟨v4, w4, hr4, RW4, G4, hb4⟩ := Rw.app el37 wf 37 wB.heap.size D.rb RN (fun u hu => by simp at hu; rw [hu, hel]; rfl) (by simp; omega) (by omega) E1.sz
    have F4 := frm_row wf G4
    have B4 : Blk w4 gw 158 (wCells gs gr V) := D.blk.ty F4 (Ty.row D.rb (by decide))
    obtain ⟨a4, c4, rfl, _⟩ := RW4.shape
    refine y_op 11 H rfl (by kernel_rfl) (wanted_none rfl) rfl (by decide) (x_builtin H rfl rfl (fun cs => bi_app hr4)) (B4) ?_
    clear H a; intro a H
    refine y_op 12 H rfl (by kernel_rfl) (wanted_none rfl) rfl (by decide) (x_nilCheck H rfl rfl) (B4) ?_
    clear H a; intro a H
    refine y_take 13 H rfl (wanted_none rfl) rfl (by decide) (by kernel_rfl) (by kernel_rfl) (by kernel_rfl) rfl (by kernel_rfl) (by decide) B4 (fun w' hSw => (x_fieldAddr H rfl rfl (fa158_6 _ _))) ?_
    clear H a; intro a H
    refine y_last H rfl (by kernel_rfl) (wanted_none rfl) rfl (x_store H rfl rfl rfl (st_cell rfl rfl Try.sizeOf37 (B4.frozen _) (B4.isSome 7 (by simp [wCells])))) ?_
    have D5 := D.setB (bk := p.bck ++ [p.r.has]) F4 RW4 hb4 (((D.eb.ty F4 (Ty.row D.rb (by decide))).app ((by rw [hel]; exact Els.one OK : Els wf wB.heap.size [el] [ackP p.r.id p.r.has]).ty F4 (Ty.row D.rb (by decide)))).as (by rw [List.map_append, hrid]; rfl)) (fun k hk u hu => (List.mem_append.1 hu).elim ((D.dsep k hk).2.2.2 u) (fun hu => by simp only [List.mem_singleton] at hu; rw [hu]; exact hsp k hk))
    have E5 := (frm_set F4 gw 7 (.slice a4 (V.xb ++ [el]).length c4)).ext E1 (row_ge D.rb D.low)
    generalize w4.setCell ⟨gw, 7, none⟩ (.slice a4 (V.xb ++ [el]).length c4) = w5 at *
    refine y_done (by kernel_rfl) (hR.out _ _ ?_)
    clear hR R
    refine hK8 _ _ ?_
    clear hK8 K8
    clear HS
    obtain ⟨wg, hwg⟩ : ∃ x_, x_ = w5.drew := ⟨_, rfl⟩
    have Ewg : Ext w5 wg := by rw [hwg]; exact (Ext.refl _).dr
    have D6 := D5.ext Ewg
    have E6 := E5.tr Ewg
    have HT := D6.blk
    refine y_start (fun w' => Blk w' gw 158 (wCells gs gr { V with vb := .slice a4 (V.xb ++ [el]).length c4, xb := V.xb ++ [el] })) 16 (by kernel_rfl) (fun R hR => ?_)
    rw [← hwg]
    refine y_take 0 H rfl (wanted_none rfl) rfl (by decide) (by kernel_rfl) (by kernel_rfl) (by kernel_rfl) rfl (by kernel_rfl) (by decide) HT (fun w' hSw => (x_move H rfl rfl)) ?_
    clear H a; intro a H
    refine y_take 1 H rfl (wanted_none rfl) rfl (by decide) (by kernel_rfl) (by kernel_rfl) (by kernel_rfl) rfl (by kernel_rfl) (by decide) HT (fun w' hSw => (x_move H rfl rfl)) ?_
    clear H a; intro a H
    refine y_take 2 H rfl (wanted_none rfl) rfl (by decide) (by kernel_rfl) (by kernel_rfl) (by kernel_rfl) rfl (by kernel_rfl) (by decide) HT (fun w' hSw => (x_nilCheck H rfl rfl)) ?_
    clear H a; intro a H
    refine y_take 3 H rfl (wanted_none rfl) rfl (by decide) (by kernel_rfl) (by kernel_rfl) (by kernel_rfl) rfl (by kernel_rfl) (by decide) HT (fun w' hSw => (x_fieldAddr H rfl rfl (fa158_7 _ _))) ?_
    clear H a; intro a H
    refine y_take 4 H rfl (wanted_none rfl) rfl (by decide) (by kernel_rfl) (by kernel_rfl) (by kernel_rfl) rfl (by kernel_rfl) (by decide) HT (fun w' hSw => (x_load H rfl rfl (l_cell (v := V.vk) Try.isAgg156 (hSw.at_ (i := 8) rfl)))) ?_
    clear H a; intro a H
    refine y_take 6 H rfl (wanted_none rfl) rfl (by decide) (by kernel_rfl) (by kernel_rfl) (by kernel_rfl) rfl (by kernel_rfl) (by decide) HT (fun w' hSw => (x_move H rfl rfl)) ?_
    clear H a; intro a H
    refine y_take 7 H rfl (wanted_none rfl) rfl (by decide) (by kernel_rfl) (by kernel_rfl) (by kernel_rfl) rfl (by kernel_rfl) (by decide) HT (fun w' hSw => (x_nilCheck H rfl rfl)) ?_
    clear H a; intro a H
    refine y_take 8 H rfl (wanted_none rfl) rfl (by decide) (by kernel_rfl) (by kernel_rfl) (by kernel_rfl) rfl (by kernel_rfl) (by decide) HT (fun w' hSw => (x_fieldAddr H rfl rfl (fa158_2 _ _))) ?_
    clear H a; intro a H
    refine y_take 9 H rfl (wanted_none rfl) rfl (by decide) (by kernel_rfl) (by kernel_rfl) (by kernel_rfl) rfl (by kernel_rfl) (by decide) HT (fun w' hSw => (x_fieldAddr H rfl rfl (fa154_0 _ _ _))) ?_
    clear H a; intro a H
    refine y_take 10 H rfl (wanted_none rfl) rfl (by decide) (by kernel_rfl) (by kernel_rfl) (by kernel_rfl) rfl (by kernel_rfl) (by decide) HT (fun w' hSw => (x_load H rfl rfl (l_cell (v := V.vh) Try.isAgg152 (hSw.at_ (i := 2) rfl)))) ?_
    clear H a; intro a H
    refine y_op 5 H rfl (by kernel_rfl) (wanted_none rfl) rfl (by decide) (x_buildSlice H rfl rfl (bs152z _)) (HT.ext ((Ext.refl _).al _)) ?_
    clear H a; intro a H
    have Exa := (Ext.refl wg).al (.cells #[] 4)
    have RN2 : Rw (wg.alloc (.cells #[] 4)) wg.heap.size 4 (.slice (some ⟨wg.heap.size, 0, none⟩) 0 0) [] := Rw.new wg wg.heap.size 4 [] (Nat.le_refl _) (by simp)
    obtain ⟨wa, hwa⟩ : ∃ x, x = wg.alloc (.cells #[] 4) := ⟨_, rfl⟩
    rw [← hwa] at Exa RN2 ⊢
    have Da := D6.ext Exa
    obtain ⟨v6, w6, hr6, RW6, G6, hb6⟩ := Rw.app el152 wa 152 wg.heap.size RN2 Da.hh (bools_one _) (by rw [bools_len, hhl]; simp; omega) (by omega) Exa.sz
    rw [List.nil_append] at RW6
    have Ex6 : Ext wg w6 := Exa.grown G6 (fun k hk => (RN2.blk k hk).1)
    have D8 := D6.ext Ex6
    obtain ⟨a6, c6, rfl, _⟩ := RW6.shape
    refine y_op 11 H rfl (by kernel_rfl) (wanted_none rfl) rfl (by decide) (x_builtin H rfl rfl (fun cs => bi_app hr6)) (D8.blk) ?_
    clear H a; intro a H
    refine y_op 12 H rfl (by kernel_rfl) (wanted_none rfl) rfl (by decide) (x_buildSlice H rfl rfl (bs156 _ _ _ _)) (D8.blk.ext ((Ext.refl _).al _)) ?_
    clear H a; intro a H
    obtain ⟨ek, hek⟩ : ∃ el, el = Value.slice a6 (bools p.has).length c6 := ⟨_, rfl⟩
    have Eal2 := (Ext.refl w6).al (.cells [ek].toArray 152)
    have RN3 := Rw.new w6 0 152 [ek] (Nat.zero_le _) (by simp)
    rw [← hek] at H RW6 ⊢
    obtain ⟨w7, hw7⟩ : ∃ x, x = w6.alloc (.cells [ek].toArray 152) := ⟨_, rfl⟩
    rw [← hw7] at RN3 Eal2 ⊢
    have D9 := D8.ext Eal2
    have E9 := (E6.tr Ex6).tr Eal2
    have hks : ∀ k, (V.vh.ownBlock = some k ∨ V.va.ownBlock = some k) → ek.ownBlock ≠ some k := fun k hk e => by
      have h1 := (RW6.blk k e).1
      rcases hk with hk | hk
      · have := (D6.hh.blk k hk).2.1; omega
      · have := (D6.ha.blk k hk).2.1; omega
    replace RW6 := (RW6.mono E6.sz).ext Eal2
    have hxk : V.xk.length = p.bck.length := by rw [D.ek.len, KK.aks, List.length_map]
    obtain ⟨v8, w8, hr8, RW8, G8, hb8⟩ := Rw.app el156 w7 156 wB.heap.size D9.rk RN3 (fun u hu => by simp at hu; rw [hu, hek]; rfl) (by show V.xk.length + _ ≤ _; simp; omega) (by omega) E9.sz
    have F8 := frm_row w7 G8
    have B8 := D9.blk.ty F8 (Ty.row D9.rk (by decide))
    obtain ⟨a8, c8, rfl, _⟩ := RW8.shape
    refine y_op 13 H rfl (by kernel_rfl) (wanted_none rfl) rfl (by decide) (x_builtin H rfl rfl (fun cs => bi_app hr8)) (B8) ?_
    clear H a; intro a H
    refine y_op 14 H rfl (by kernel_rfl) (wanted_none rfl) rfl (by decide) (x_nilCheck H rfl rfl) (B8) ?_
    clear H a; intro a H
    refine y_take 15 H rfl (wanted_none rfl) rfl (by decide) (by kernel_rfl) (by kernel_rfl) (by kernel_rfl) rfl (by kernel_rfl) (by decide) B8 (fun w' hSw => (x_fieldAddr H rfl rfl (fa158_7 _ _))) ?_
    clear H a; intro a H
    refine y_last H rfl (by kernel_rfl) (wanted_none rfl) rfl (x_store H rfl rfl rfl (st_cell rfl rfl Try.sizeOf156 (B8.frozen _) (B8.isSome 8 (by simp [wCells])))) ?_
    have D10 := D9.setK (ak := p.aks ++ [p.has]) F8 RW8 ((D9.ek.ty F8 (Ty.row D9.rk (by decide))).app ((Bls.one RW6).ty F8 (Ty.row D9.rk (by decide)))) (fun k hk u hu => (List.mem_append.1 hu).elim (fun hu => hk.elim (fun hk => (D9.hsep k hk).2 u hu) (fun hk => (D9.asep k hk).2 u hu)) (fun hu => by simp only [List.mem_singleton] at hu; rw [hu]; exact hks k hk))
    have E10 := (frm_set F8 gw 8 (.slice a8 (V.xk ++ [ek]).length c8)).ext E9 (row_ge D9.rk D9.low)
    refine y_done (by kernel_rfl) (hR.out _ _ ?_)
    clear hR R
    refine hK2 _ _ ?_
    clear hK2 K2
    refine wp_seq_k (fun K9 hK9 => ?_)
    refine e_region (fun R hR => ?_)
    refine e_op H rfl rfl (by decide) (x_assign H rfl rfl) ?_
    clear H a; intro a H
    refine e_nil (hR.out _ _ ?_)
    clear hR R
    refine hK9 _ _ ?_
    clear hK9 K9
    refine wp_ret ?_
    exact ret1 H rfl rfl ⟨rfl, _, _, D10, KK.tell (by omega), E10⟩
  · skip
    refine calls_has (args := [.pointer (some ⟨gw, 0, none⟩), .agg #[.int .u8 (kd : Int), .int .u16 (at_ : Int), .bool st, .int .u32 (bz : Int)]]) Try.func102 rfl Try.ntmps102 (Nat.le_of_ble_eq_true rfl) (fun a H => ?_)
    simp only [argl, Nat.reduceAdd] at H
    refine wp_seq_k (fun K1 hK1 => ?_)
    refine e_region (fun R hR => ?_)
    refine e_op H rfl rfl (by decide) (x_box H rfl rfl bx_new) ?_
    clear H a; intro a H
    have M0 := Blk.new w0 168 [.int .u8 (kd : Int), .int .u16 (at_ : Int), .bool st, .int .u32 (bz : Int)]
    have E1 := E0.al (.cells #[.int .u8 (kd : Int), .int .u16 (at_ : Int), .bool st, .int .u32 (bz : Int)] 168)
    have D1 := D.ext ((Ext.refl w0).al (.cells #[.int .u8 (kd : Int), .int .u16 (at_ : Int), .bool st, .int .u32 (bz : Int)] 168))
    obtain ⟨g3, hg3⟩ : ∃ g, g = w0.heap.size := ⟨_, rfl⟩
    rw [← hg3] at H M0
    generalize w0.alloc (.cells #[.int .u8 (kd : Int), .int .u16 (at_ : Int), .bool st, .int .u32 (bz : Int)] 168) = w1 at *
    clear D
    have D := D1
    clear D1
    refine e_op H rfl rfl (by decide) (x_assign H rfl rfl) ?_
    clear H a; intro a H
    refine e_nil (hR.out _ _ ?_)
    clear hR R
    refine hK1 _ _ ?_
    clear hK1 K1
    refine wp_seq_k (fun K2 hK2 => ?_)
    refine wp_seq_k (fun K3 hK3 => ?_)
    refine e_region (fun R hR => ?_)
    refine e_op H rfl rfl (by decide) (x_fieldAddr H rfl rfl (fa168_0 _ _)) ?_
    clear H a; intro a H
    refine e_op H rfl rfl (by decide) (x_load H rfl rfl (l_cell Try.isAgg5 (M0.at_ (i := 0) rfl))) ?_
    clear H a; intro a H
    refine e_op H rfl rfl (by decide) (x_binI H rfl rfl rfl (b_rem (z := ((kd % 10 : Nat) : Int)) (by decide) (by rw [Int.tmod_eq_emod_of_nonneg (by omega)]; omega))) ?_
    clear H a; intro a H
    refine e_op H rfl rfl (by decide) (x_assign H rfl rfl) ?_
    clear H a; intro a H
    refine e_nil (hR.out _ _ ?_)
    clear hR R
    refine hK3 _ _ ?_
    clear hK3 K3
    refine wp_block ?_
    refine wp_seq_k (fun K4 hK4 => ?_)
    refine e_region (fun R hR => ?_)
    refine e_op H rfl rfl (by decide) (x_move H rfl rfl) ?_
    clear H a; intro a H
    refine e_op H rfl rfl (by decide) (x_binI H rfl rfl rfl (b_lss (b := false) (dec_f (by omega)))) ?_
    clear H a; intro a H
    refine e_op H rfl rfl (by decide) (x_assign H rfl rfl) ?_
    clear H a; intro a H
    refine e_nil (hR.out _ _ ?_)
    clear hR R
    refine hK4 _ _ ?_
    clear hK4 K4
    refine c_false H rfl ?_
    refine wp_seq_k (fun K5 hK5 => ?_)
    refine e_region (fun R hR => ?_)
    refine e_op H rfl rfl (by decide) (x_move H rfl rfl) ?_
    clear H a; intro a H
    refine e_op H rfl rfl (by decide) (x_binI H rfl rfl rfl (b_lss (b := false) (dec_f (by omega)))) ?_
    clear H a; intro a H
    refine e_op H rfl rfl (by decide) (x_assign H rfl rfl) ?_
    clear H a; intro a H
    refine e_nil (hR.out _ _ ?_)
    clear hR R
    refine hK5 _ _ ?_
    clear hK5 K5
    refine c_false H rfl ?_
    refine wp_seq_k (fun K6 hK6 => ?_)
    refine e_region (fun R hR => ?_)
    refine e_op H rfl rfl (by decide) (x_move H rfl rfl) ?_
    clear H a; intro a H
    refine e_op H rfl rfl (by decide) (x_binI H rfl rfl rfl (b_eql (b := true) (beq_t (by omega)))) ?_
    clear H a; intro a H
    refine e_op H rfl rfl (by decide) (x_assign H rfl rfl) ?_
    clear H a; intro a H
    refine e_nil (hR.out _ _ ?_)
    clear hR R
    refine hK6 _ _ ?_
    clear hK6 K6
    refine c_true H rfl ?_
    refine wp_seq_k (fun K7 hK7 => ?_)
    refine e_region (fun R hR => ?_)
    refine e_op H rfl rfl (by decide) (x_move H rfl rfl) ?_
    clear H a; intro a H
    refine e_op H rfl rfl (by decide) (x_nilCheck H rfl rfl) ?_
    clear H a; intro a H
    refine e_op H rfl rfl (by decide) (x_fieldAddr H rfl rfl (fa158_6 _ _)) ?_
    clear H a; intro a H
    refine e_op H rfl rfl (by decide) (x_load H rfl rfl (l_cell (v := .slice ba V.xb.length bc) Try.isAgg37 (D.blk.at_ (i := 7) (by rw [← hvb]; rfl)))) ?_
    clear H a; intro a H
    refine e_op H rfl rfl (by decide) (x_builtin H rfl rfl (fun cs => len_sl Try.underlying37)) ?_
    clear H a; intro a H
    refine e_op H rfl rfl (by decide) (x_binI H rfl rfl rfl (b_lss (b := false) (dec_f (by omega)))) ?_
    clear H a; intro a H
    refine e_nil (hR.out _ _ ?_)
    clear hR R
    refine hK7 _ _ ?_
    clear hK7 K7
    refine c_false H rfl ?_
    refine wp_skip ?_
    refine hK2 _ _ ?_
    clear hK2 K2
    refine wp_seq_k (fun K8 hK8 => ?_)
    refine e_region (fun R hR => ?_)
    refine e_op H rfl rfl (by decide) (x_assign H rfl rfl) ?_
    clear H a; intro a H
    refine e_nil (hR.out _ _ ?_)
    clear hR R
    refine hK8 _ _ ?_
    clear hK8 K8
    refine wp_ret ?_
    exact ret1 H rfl rfl ⟨rfl, V, p, D, KK, E1⟩
end Go.Proofs.Ytknllmcpogoeoaa
