/- One move of a play, walked: what is out goes on its way. -/
import Derived.Test.YtknllmcpogoeoaaT21
namespace Go.Proofs.Ytknllmcpogoeoaa
open Go.RowKit
set_option linter.unusedVariables false
set_option linter.unusedSimpArgs false
set_option maxRecDepth 100000
theorem frm_row {row : Option Nat} (w : World) {w' : World} (G : w.grownBy w' row) : Frm row.toList w w' := (Frm.refl row.toList w).grown G (fun k hk => .inl (by rw [hk]; simp))
theorem row_ge {w : World} {B e g : Nat} {v : Value} {xs : List Value} (h : Rw w B e v xs) (hg : B ≤ g) : ∀ x ∈ v.ownBlock.toList ++ [g], B ≤ x := by
  intro x hx
  rcases List.mem_append.1 hx with hx | hx
  · rw [Option.mem_toList] at hx
    exact (h.blk x hx).1
  · simp only [List.mem_singleton] at hx
    rw [hx]; exact hg
theorem Els.as {w : World} {B : Nat} {xs : List Value} {ls ms : List (List UInt8)} (h : Els w B xs ls) (e : ms = ls) : Els w B xs ms := e ▸ h
theorem Rw.as {w : World} {B : Nat} {v : Value} {xs : List Value} {ck : List Nat} (h : Rw w B 3 v xs) (e : xs = ints ck) : Rw w B 3 v (ints ck) := e ▸ h
theorem do_send (wB : World) (gw gs gr id : Nat) (file : List UInt8) (V : Wv) (p : Wp) (kd at_ bz : Nat) (st : Bool) (w0 : World) (D : Wd w0 wB.heap.size gw gs gr V p) (KK : Wok p id file) (E0 : Ext wB w0) (hkd : kd ≤ 255) (hat : at_ ≤ 65535) (hbz : bz ≤ 4294967295)
    (hK : kd % 10 < 3) : Calls Try.prog 102 #[.pointer (some ⟨gw, 0, none⟩), .agg #[.int .u8 (kd : Int), .int .u16 (at_ : Int), .bool st, .int .u32 (bz : Int)]] w0 (DoPost wB gw gs gr id file) := by
  have hal := KK.alen_
  have hfll := KK.fll
  have hc := chunks_le hfll
  obtain ⟨fa, fc, hvf, _⟩ := D.rf.shape
  have hxf : V.xf.length = p.fwd.length := by rw [D.ef.len, List.length_map]
  have hck : p.cks.length = p.fwd.length := by rw [KK.cks]
  have htl : ((unm (gb p.ack) p.ack.length).take 8).length ≤ 8 := by rw [List.length_take]; omega
  have hxl : ∀ (w : World) {v : Value} {xs : List Value}, Outs w wB.heap.size V.vr v xs (((unm (gb p.s.acked) (chunksT p.s.file.length)).take 8).map (pkt p.s.id p.s.file)) → xs.length = ((unm (gb p.ack) p.ack.length).take 8).length := fun w v xs h => by rw [h.els.len, List.length_map, KK.out_lt]
  by_cases hlt : p.fwd.length < 200
  · skip
    refine calls_has (args := [.pointer (some ⟨gw, 0, none⟩), .agg #[.int .u8 (kd : Int), .int .u16 (at_ : Int), .bool st, .int .u32 (bz : Int)]]) Try.func102 rfl Try.ntmps102 (Nat.le_of_ble_eq_true rfl) (fun a H => ?_)
    simp only [argl, Nat.reduceAdd] at H
    refine wp_seq_k (fun K1 hK1 => ?_)
    refine e_region (fun R hR => ?_)
    refine e_op H rfl rfl (by decide) (x_box H rfl rfl bx_new) ?_
    clear H a; intro a H
    have M0 := Blk.new w0 168 [.int .u8 (kd : Int), .int .u16 (at_ : Int), .bool st, .int .u32 (bz : Int)]
    have E1 := E0.al (.cells #[.int .u8 (kd : Int), .int .u16 (at_ : Int), .bool st, .int .u32 (bz : Int)] 168)
    have D1 := D.ext ((Ext.refl w0).al (.cells #[.int .u8 (kd : Int), .int .u16 (at_ : Int), .bool st, .int .u32 (bz : Int)] 168))
    obtain ⟨g3, hg3⟩ : ∃ g, g = w0.heap.size := ⟨_, rfl⟩
    rw [← hg3] at H M0
    generalize w0.alloc (.cells #[.int .u8 (kd : Int), .int .u16 (at_ : Int), .bool st, .int .u32 (bz : Int)] 168) = w1 at *
    clear D
    have D := D1
    clear D1
    refine e_op H rfl rfl (by decide) (x_assign H rfl rfl) ?_
    clear H a; intro a H
    refine e_nil (hR.out _ _ ?_)
    clear hR R
    refine hK1 _ _ ?_
    clear hK1 K1
    refine wp_seq_k (fun K2 hK2 => ?_)
    refine wp_seq_k (fun K3 hK3 => ?_)
    refine e_region (fun R hR => ?_)
    refine e_op H rfl rfl (by decide) (x_fieldAddr H rfl rfl (fa168_0 _ _)) ?_
    clear H a; intro a H
    refine e_op H rfl rfl (by decide) (x_load H rfl rfl (l_cell Try.isAgg5 (M0.at_ (i := 0) rfl))) ?_
    clear H a; intro a H
    refine e_op H rfl rfl (by decide) (x_binI H rfl rfl rfl (b_rem (z := ((kd % 10 : Nat) : Int)) (by decide) (by rw [Int.tmod_eq_emod_of_nonneg (by omega)]; omega))) ?_
    clear H a; intro a H
    refine e_op H rfl rfl (by decide) (x_assign H rfl rfl) ?_
    clear H a; intro a H
    refine e_nil (hR.out _ _ ?_)
    clear hR R
    refine hK3 _ _ ?_
    clear hK3 K3
    refine wp_block ?_
    refine wp_seq_k (fun K4 hK4 => ?_)
    refine e_region (fun R hR => ?_)
    refine e_op H rfl rfl (by decide) (x_move H rfl rfl) ?_
    clear H a; intro a H
    refine e_op H rfl rfl (by decide) (x_binI H rfl rfl rfl (b_lss (b := true) (dec_t (by omega)))) ?_
    clear H a; intro a H
    refine e_op H rfl rfl (by decide) (x_assign H rfl rfl) ?_
    clear H a; intro a H
    refine e_nil (hR.out _ _ ?_)
    clear hR R
    refine hK4 _ _ ?_
    clear hK4 K4
    refine c_true H rfl ?_
    refine wp_seq_k (fun K5 hK5 => ?_)
    refine e_region (fun R hR => ?_)
    refine e_op H rfl rfl (by decide) (x_move H rfl rfl) ?_
    clear H a; intro a H
    refine e_op H rfl rfl (by decide) (x_nilCheck H rfl rfl) ?_
    clear H a; intro a H
    refine e_op H rfl rfl (by decide) (x_fieldAddr H rfl rfl (fa158_0 _ _)) ?_
    clear H a; intro a H
    refine e_op H rfl rfl (by decide) (x_load H rfl rfl (l_cell Try.isAgg64 (D.blk.at_ (i := 0) rfl))) ?_
    clear H a; intro a H
    refine e_callq H rfl rfl (by decide) rfl rfl (Try.call52 _) (out_any wB.heap.size gs V.vs p.s w1 D.sn) ?_
    clear H a
    rintro e w2 ⟨vx, xs, rfl, RX, EX, E2⟩
    have OO := Outs.of D.rv RX EX E1.sz
    replace D := D.ext E2
    replace E1 := E1.tr E2
    obtain ⟨xa, xc, rfl, _⟩ := RX.shape
    clear RX EX
    refine ⟨_, rfl, fun a H => ?_⟩
    refine e_op H rfl rfl (by decide) (x_assign H rfl rfl) ?_
    clear H a; intro a H
    refine e_nil (hR.out _ _ ?_)
    clear hR R
    refine hK5 _ _ ?_
    clear hK5 K5
    refine wp_seq_k (fun K6 hK6 => ?_)
    refine e_region (fun R hR => ?_)
    refine e_op H rfl rfl (by decide) (x_move H rfl rfl) ?_
    clear H a; intro a H
    refine e_op H rfl rfl (by decide) (x_nilCheck H rfl rfl) ?_
    clear H a; intro a H
    refine e_op H rfl rfl (by decide) (x_fieldAddr H rfl rfl (fa158_2 _ _)) ?_
    clear H a; intro a H
    refine e_op H rfl rfl (by decide) (x_load H rfl rfl (ld_link D.blk)) ?_
    clear H a; intro a H
    refine e_callq H rfl rfl (by decide) rfl rfl (Try.call132 _) (outL_any wB.heap.size p.has p.ack V.vh V.va w2 D.hh D.ha (by omega)) ?_
    clear H a
    rintro e w3 ⟨vu, rfl, RU, E3⟩
    replace RU := RU.mono E1.sz
    replace D := D.ext E3
    replace OO := OO.ext E3
    replace E1 := E1.tr E3
    obtain ⟨ua, uc, rfl, _⟩ := RU.shape
    refine ⟨_, rfl, fun a H => ?_⟩
    refine e_op H rfl rfl (by decide) (x_assign H rfl rfl) ?_
    clear H a; intro a H
    refine e_nil (hR.out _ _ ?_)
    clear hR R
    refine hK6 _ _ ?_
    clear hK6 K6
    refine wp_seq_k (fun K7 hK7 => ?_)
    refine wp_seq_k (fun K8 hK8 => ?_)
    refine e_region (fun R hR => ?_)
    refine e_op H rfl rfl (by decide) (x_move H rfl rfl) ?_
    clear H a; intro a H
    refine e_op H rfl rfl (by decide) (x_builtin H rfl rfl (fun cs => len_sl Try.underlying37)) ?_
    clear H a; intro a H
    refine e_op H rfl rfl (by decide) (x_move H rfl rfl) ?_
    clear H a; intro a H
    refine e_op H rfl rfl (by decide) (x_builtin H rfl rfl (fun cs => len_sl Try.underlying155)) ?_
    clear H a; intro a H
    refine e_op H rfl rfl (by decide) (x_binI H rfl rfl rfl (b_neq (b := false) (bne_f (by rw [hxl w3 OO, ints_len])))) ?_
    clear H a; intro a H
    refine e_nil (hR.out _ _ ?_)
    clear hR R
    refine hK8 _ _ ?_
    clear hK8 K8
    refine c_false H rfl ?_
    refine wp_skip ?_
    refine hK7 _ _ ?_
    clear hK7 K7
    refine wp_seq_k (fun K9 hK9 => ?_)
    refine e_region (fun R hR => ?_)
    refine e_op H rfl rfl (by decide) (x_move H rfl rfl) ?_
    clear H a; intro a H
    refine e_op H rfl rfl (by decide) (x_nilCheck H rfl rfl) ?_
    clear H a; intro a H
    refine e_op H rfl rfl (by decide) (x_fieldAddr H rfl rfl (fa158_4 _ _)) ?_
    clear H a; intro a H
    refine e_op H rfl rfl (by decide) (x_load H rfl rfl (l_cell (v := .slice fa V.xf.length fc) Try.isAgg37 (D.blk.at_ (i := 5) (by rw [← hvf]; rfl)))) ?_
    clear H a; intro a H
    refine e_op H rfl rfl (by decide) (x_builtin H rfl rfl (fun cs => len_sl Try.underlying37)) ?_
    clear H a; intro a H
    refine e_op H rfl rfl (by decide) (x_binI H rfl rfl rfl (b_lss (b := true) (dec_t (by omega)))) ?_
    clear H a; intro a H
    refine e_nil (hR.out _ _ ?_)
    clear hR R
    refine hK9 _ _ ?_
    clear hK9 K9
    refine c_true H rfl ?_
    refine wp_seq_k (fun K10 hK10 => ?_)
    refine e_region (fun R hR => ?_)
    refine e_op H rfl rfl (by decide) (x_move H rfl rfl) ?_
    clear H a; intro a H
    refine e_op H rfl rfl (by decide) (x_move H rfl rfl) ?_
    clear H a; intro a H
    refine e_op H rfl rfl (by decide) (x_nilCheck H rfl rfl) ?_
    clear H a; intro a H
    refine e_op H rfl rfl (by decide) (x_fieldAddr H rfl rfl (fa158_4 _ _)) ?_
    clear H a; intro a H
    refine e_op H rfl rfl (by decide) (x_load H rfl rfl (l_cell Try.isAgg37 (D.blk.at_ (i := 5) rfl))) ?_
    clear H a; intro a H
    refine e_op H rfl rfl (by decide) (x_move H rfl rfl) ?_
    clear H a; intro a H
    obtain ⟨v4, w4, hr4, RW4, G4, hb4⟩ := Rw.app el37 w3 37 wB.heap.size D.rf OO.row OO.els.cells1 (by rw [hxl w3 OO]; omega) (by omega) E1.sz
    obtain ⟨a4, c4, rfl, _⟩ := RW4.shape
    refine e_op H rfl rfl (by decide) (x_builtin H rfl rfl (fun cs => bi_app hr4)) ?_
    clear H a; intro a H
    have F4 := frm_row w3 G4
    have B4 : Blk w4 gw 158 (wCells gs gr V) := D.blk.ty F4 (Ty.row D.rf (by decide))
    refine e_op H rfl rfl (by decide) (x_nilCheck H rfl rfl) ?_
    clear H a; intro a H
    refine e_op H rfl rfl (by decide) (x_fieldAddr H rfl rfl (fa158_4 _ _)) ?_
    clear H a; intro a H
    refine e_st H rfl rfl (x_store H rfl rfl rfl (st_cell rfl rfl Try.sizeOf37 (B4.frozen _) (B4.isSome 5 (by simp [wCells])))) ?_
    have D5 := D.setF F4 RW4 hb4 (((D.ef.past D.rf (by decide) G4).app (OO.els.past D.rf (by decide) G4)).as (by rw [List.map_append])) (fun k hk u hu => (List.mem_append.1 hu).elim ((D.dsep k hk).2.2.1 u) (OO.sep k hk u))
    have E5 := (frm_set F4 gw 5 (.slice a4 (V.xf ++ xs).length c4)).ext E1 (row_ge D.rf D.low)
    have RU5 := RU.ty (frm_set F4 gw 5 (.slice a4 (V.xf ++ xs).length c4)) ((Ty.row D.rf (by decide)).app (Ty.blk D.blk (by decide)))
    generalize w4.setCell ⟨gw, 5, none⟩ (.slice a4 (V.xf ++ xs).length c4) = w5 at *
    refine e_nil (hR.out _ _ ?_)
    clear hR R
    refine hK10 _ _ ?_
    clear hK10 K10
    refine e_region (fun R hR => ?_)
    refine e_op H rfl rfl (by decide) (x_move H rfl rfl) ?_
    clear H a; intro a H
    refine e_op H rfl rfl (by decide) (x_move H rfl rfl) ?_
    clear H a; intro a H
    refine e_op H rfl rfl (by decide) (x_nilCheck H rfl rfl) ?_
    clear H a; intro a H
    refine e_op H rfl rfl (by decide) (x_fieldAddr H rfl rfl (fa158_5 _ _)) ?_
    clear H a; intro a H
    refine e_op H rfl rfl (by decide) (x_load H rfl rfl (l_cell Try.isAgg155 (D5.blk.at_ (i := 6) rfl))) ?_
    clear H a; intro a H
    refine e_op H rfl rfl (by decide) (x_move H rfl rfl) ?_
    clear H a; intro a H
    obtain ⟨v6, w6, hr6, RW6, G6, hb6⟩ := Rw.app el155 w5 155 wB.heap.size D5.rc RU5 (ints_one _) (by rw [ints_len, ints_len, hck]; omega) (by omega) E5.sz
    obtain ⟨a6, c6, rfl, _⟩ := RW6.shape
    refine e_op H rfl rfl (by decide) (x_builtin H rfl rfl (fun cs => bi_app hr6)) ?_
    clear H a; intro a H
    have F6 := frm_row w5 G6
    have B6 := D5.blk.ty F6 (Ty.row D5.rc (by decide))
    refine e_op H rfl rfl (by decide) (x_nilCheck H rfl rfl) ?_
    clear H a; intro a H
    refine e_op H rfl rfl (by decide) (x_fieldAddr H rfl rfl (fa158_5 _ _)) ?_
    clear H a; intro a H
    refine e_st H rfl rfl (x_store H rfl rfl rfl (st_cell rfl rfl Try.sizeOf155 (B6.frozen _) (B6.isSome 6 (by simp [wCells])))) ?_
    have D7 := D5.setC F6 (RW6.as (ck := p.cks ++ (unm (gb p.ack) p.ack.length).take 8) (by simp [ints]))
    have E7 := (frm_set F6 gw 6 (.slice a6 (ints p.cks ++ ints ((unm (gb p.ack) p.ack.length).take 8)).length c6)).ext E5 (row_ge D5.rc D5.low)
    refine e_nil (hR.out _ _ ?_)
    clear hR R
    refine hK2 _ _ ?_
    clear hK2 K2
    refine wp_seq_k (fun K11 hK11 => ?_)
    refine e_region (fun R hR => ?_)
    refine e_op H rfl rfl (by decide) (x_assign H rfl rfl) ?_
    clear H a; intro a H
    refine e_nil (hR.out _ _ ?_)
    clear hR R
    refine hK11 _ _ ?_
    clear hK11 K11
    refine wp_ret ?_
    exact ret1 H rfl rfl ⟨rfl, _, _, D7, KK.send (by omega), E7⟩
  · skip
    refine calls_has (args := [.pointer (some ⟨gw, 0, none⟩), .agg #[.int .u8 (kd : Int), .int .u16 (at_ : Int), .bool st, .int .u32 (bz : Int)]]) Try.func102 rfl Try.ntmps102 (Nat.le_of_ble_eq_true rfl) (fun a H => ?_)
    simp only [argl, Nat.reduceAdd] at H
    refine wp_seq_k (fun K1 hK1 => ?_)
    refine e_region (fun R hR => ?_)
    refine e_op H rfl rfl (by decide) (x_box H rfl rfl bx_new) ?_
    clear H a; intro a H
    have M0 := Blk.new w0 168 [.int .u8 (kd : Int), .int .u16 (at_ : Int), .bool st, .int .u32 (bz : Int)]
    have E1 := E0.al (.cells #[.int .u8 (kd : Int), .int .u16 (at_ : Int), .bool st, .int .u32 (bz : Int)] 168)
    have D1 := D.ext ((Ext.refl w0).al (.cells #[.int .u8 (kd : Int), .int .u16 (at_ : Int), .bool st, .int .u32 (bz : Int)] 168))
    obtain ⟨g3, hg3⟩ : ∃ g, g = w0.heap.size := ⟨_, rfl⟩
    rw [← hg3] at H M0
    generalize w0.alloc (.cells #[.int .u8 (kd : Int), .int .u16 (at_ : Int), .bool st, .int .u32 (bz : Int)] 168) = w1 at *
    clear D
    have D := D1
    clear D1
    refine e_op H rfl rfl (by decide) (x_assign H rfl rfl) ?_
    clear H a; intro a H
    refine e_nil (hR.out _ _ ?_)
    clear hR R
    refine hK1 _ _ ?_
    clear hK1 K1
    refine wp_seq_k (fun K2 hK2 => ?_)
    refine wp_seq_k (fun K3 hK3 => ?_)
    refine e_region (fun R hR => ?_)
    refine e_op H rfl rfl (by decide) (x_fieldAddr H rfl rfl (fa168_0 _ _)) ?_
    clear H a; intro a H
    refine e_op H rfl rfl (by decide) (x_load H rfl rfl (l_cell Try.isAgg5 (M0.at_ (i := 0) rfl))) ?_
    clear H a; intro a H
    refine e_op H rfl rfl (by decide) (x_binI H rfl rfl rfl (b_rem (z := ((kd % 10 : Nat) : Int)) (by decide) (by rw [Int.tmod_eq_emod_of_nonneg (by omega)]; omega))) ?_
    clear H a; intro a H
    refine e_op H rfl rfl (by decide) (x_assign H rfl rfl) ?_
    clear H a; intro a H
    refine e_nil (hR.out _ _ ?_)
    clear hR R
    refine hK3 _ _ ?_
    clear hK3 K3
    refine wp_block ?_
    refine wp_seq_k (fun K4 hK4 => ?_)
    refine e_region (fun R hR => ?_)
    refine e_op H rfl rfl (by decide) (x_move H rfl rfl) ?_
    clear H a; intro a H
    refine e_op H rfl rfl (by decide) (x_binI H rfl rfl rfl (b_lss (b := true) (dec_t (by omega)))) ?_
    clear H a; intro a H
    refine e_op H rfl rfl (by decide) (x_assign H rfl rfl) ?_
    clear H a; intro a H
    refine e_nil (hR.out _ _ ?_)
    clear hR R
    refine hK4 _ _ ?_
    clear hK4 K4
    refine c_true H rfl ?_
    refine wp_seq_k (fun K5 hK5 => ?_)
    refine e_region (fun R hR => ?_)
    refine e_op H rfl rfl (by decide) (x_move H rfl rfl) ?_
    clear H a; intro a H
    refine e_op H rfl rfl (by decide) (x_nilCheck H rfl rfl) ?_
    clear H a; intro a H
    refine e_op H rfl rfl (by decide) (x_fieldAddr H rfl rfl (fa158_0 _ _)) ?_
    clear H a; intro a H
    refine e_op H rfl rfl (by decide) (x_load H rfl rfl (l_cell Try.isAgg64 (D.blk.at_ (i := 0) rfl))) ?_
    clear H a; intro a H
    refine e_callq H rfl rfl (by decide) rfl rfl (Try.call52 _) (out_any wB.heap.size gs V.vs p.s w1 D.sn) ?_
    clear H a
    rintro e w2 ⟨vx, xs, rfl, RX, EX, E2⟩
    have OO := Outs.of D.rv RX EX E1.sz
    replace D := D.ext E2
    replace E1 := E1.tr E2
    obtain ⟨xa, xc, rfl, _⟩ := RX.shape
    clear RX EX
    refine ⟨_, rfl, fun a H => ?_⟩
    refine e_op H rfl rfl (by decide) (x_assign H rfl rfl) ?_
    clear H a; intro a H
    refine e_nil (hR.out _ _ ?_)
    clear hR R
    refine hK5 _ _ ?_
    clear hK5 K5
    refine wp_seq_k (fun K6 hK6 => ?_)
    refine e_region (fun R hR => ?_)
    refine e_op H rfl rfl (by decide) (x_move H rfl rfl) ?_
    clear H a; intro a H
    refine e_op H rfl rfl (by decide) (x_nilCheck H rfl rfl) ?_
    clear H a; intro a H
    refine e_op H rfl rfl (by decide) (x_fieldAddr H rfl rfl (fa158_2 _ _)) ?_
    clear H a; intro a H
    refine e_op H rfl rfl (by decide) (x_load H rfl rfl (ld_link D.blk)) ?_
    clear H a; intro a H
    refine e_callq H rfl rfl (by decide) rfl rfl (Try.call132 _) (outL_any wB.heap.size p.has p.ack V.vh V.va w2 D.hh D.ha (by omega)) ?_
    clear H a
    rintro e w3 ⟨vu, rfl, RU, E3⟩
    replace RU := RU.mono E1.sz
    replace D := D.ext E3
    replace OO := OO.ext E3
    replace E1 := E1.tr E3
    obtain ⟨ua, uc, rfl, _⟩ := RU.shape
    refine ⟨_, rfl, fun a H => ?_⟩
    refine e_op H rfl rfl (by decide) (x_assign H rfl rfl) ?_
    clear H a; intro a H
    refine e_nil (hR.out _ _ ?_)
    clear hR R
    refine hK6 _ _ ?_
    clear hK6 K6
    refine wp_seq_k (fun K7 hK7 => ?_)
    refine wp_seq_k (fun K8 hK8 => ?_)
    refine e_region (fun R hR => ?_)
    refine e_op H rfl rfl (by decide) (x_move H rfl rfl) ?_
    clear H a; intro a H
    refine e_op H rfl rfl (by decide) (x_builtin H rfl rfl (fun cs => len_sl Try.underlying37)) ?_
    clear H a; intro a H
    refine e_op H rfl rfl (by decide) (x_move H rfl rfl) ?_
    clear H a; intro a H
    refine e_op H rfl rfl (by decide) (x_builtin H rfl rfl (fun cs => len_sl Try.underlying155)) ?_
    clear H a; intro a H
    refine e_op H rfl rfl (by decide) (x_binI H rfl rfl rfl (b_neq (b := false) (bne_f (by rw [hxl w3 OO, ints_len])))) ?_
    clear H a; intro a H
    refine e_nil (hR.out _ _ ?_)
    clear hR R
    refine hK8 _ _ ?_
    clear hK8 K8
    refine c_false H rfl ?_
    refine wp_skip ?_
    refine hK7 _ _ ?_
    clear hK7 K7
    refine wp_seq_k (fun K9 hK9 => ?_)
    refine e_region (fun R hR => ?_)
    refine e_op H rfl rfl (by decide) (x_move H rfl rfl) ?_
    clear H a; intro a H
    refine e_op H rfl rfl (by decide) (x_nilCheck H rfl rfl) ?_
    clear H a; intro a H
    refine e_op H rfl rfl (by decide) (x_fieldAddr H rfl rfl (fa158_4 _ _)) ?_
    clear H a; intro a H
    refine e_op H rfl rfl (by decide) (x_load H rfl rfl (l_cell (v := .slice fa V.xf.length fc) Try.isAgg37 (D.blk.at_ (i := 5) (by rw [← hvf]; rfl)))) ?_
    clear H a; intro a H
    refine e_op H rfl rfl (by decide) (x_builtin H rfl rfl (fun cs => len_sl Try.underlying37)) ?_
    clear H a; intro a H
    refine e_op H rfl rfl (by decide) (x_binI H rfl rfl rfl (b_lss (b := false) (dec_f (by omega)))) ?_
    clear H a; intro a H
    refine e_nil (hR.out _ _ ?_)
    clear hR R
    refine hK9 _ _ ?_
    clear hK9 K9
    refine c_false H rfl ?_
    refine wp_skip ?_
    refine hK2 _ _ ?_
    clear hK2 K2
    refine wp_seq_k (fun K10 hK10 => ?_)
    refine e_region (fun R hR => ?_)
    refine e_op H rfl rfl (by decide) (x_assign H rfl rfl) ?_
    clear H a; intro a H
    refine e_nil (hR.out _ _ ?_)
    clear hR R
    refine hK10 _ _ ?_
    clear hK10 K10
    refine wp_ret ?_
    exact ret1 H rfl rfl ⟨rfl, V, p, D, KK, E1⟩
end Go.Proofs.Ytknllmcpogoeoaa
