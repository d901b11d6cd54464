/- A record read back: walked. -/
import Derived.Test.YtknllmcpogoeoaaR27
namespace Go.Proofs.Ytknllmcpogoeoaa
open Go.RowKit
set_option linter.unusedVariables false
set_option linter.unusedSimpArgs false
set_option maxRecDepth 100000
set_option maxHeartbeats 800000 in
theorem newReader_lt (a : Option Addr) (n c : Nat) (l : List UInt8) (w : World) (hb : Bs w a n l) (hz : a = none → c = 0) (hn : n ≤ 140737488351232) :
    Calls Try.prog 77 #[.slice a n c] w (fun e w' => ∃ g h, e = .returned (.pointer (some ⟨g, 0, none⟩)) ∧ Rd w' g h l 0 ∧ w.heap.size ≤ g ∧ w.heap.size ≤ h ∧ h < w'.heap.size ∧ Ext w w') := by
  have Z := Ow.zero w w.heap.size rfl w.heap.size (Nat.le_refl _)
  have E0 := (Ext.refl w).al (.cells #[] 5)
  go_enter Try.func77, Try.ntmps77
  go_wp2_with (at_builtin; refine wp_app (s := .tmp 3) (x := .tmp 4) w.heap.size n l rfl rfl Z (E0.bs hb) hz (by omega) rfl (by omega) (by simp) ?_; intro a1 c1 w1 O1 G1; have E1 := E0.app Z (Nat.le_refl _) G1)
  go_ret
  have hs1 : w.heap.size + 1 ≤ w1.heap.size := by have := G1.size; simpa using this
  have hE2 := E1.al (.cells #[.slice a1 n c1, .int .i64 0] 203)
  have hB := Blk.new w1 203 [.slice a1 n c1, .int .i64 0]
  have O2 := (Ext.refl w1).al (.cells #[.slice a1 n c1, .int .i64 0] 203) |>.bs O1.bs
  rcases O1.form with ⟨rfl, rfl, rfl, rfl⟩ | ⟨g', cur, rfl, hg, hh, hnc, hm, hs, ht⟩
  · exact ⟨w1.heap.size, w.heap.size, rfl, ⟨by omega, none, 0, 0, hB, O2, Nat.le_refl _, fun _ => rfl, (fun b off e => by cases e), by omega, (fun b e => by cases e)⟩, by omega, Nat.le_refl _, by rw [World.size_alloc]; omega, hE2⟩
  · have hlt := (O1.lt rfl).2
    exact ⟨w1.heap.size, g', rfl, ⟨by omega, some ⟨g', 0, none⟩, n, c1, hB, O2, hnc, (fun e => by cases e), (fun b off e => by simp only [Option.some.injEq, Addr.mk.injEq] at e; exact e.1.symm), by omega, (fun b e => by cases e; rfl)⟩, by omega, by omega, by rw [World.size_alloc]; omega, hE2⟩
theorem bldrd (era : Int) (f k : Nat) (w : World) : (Instr.build 95 #[(3, .int .u8 (k : Int)), (0, .int .i64 era), (1, .int .u64 (f : Int))]).run Try.prog w = .ok (.agg ((⟨era, f, zeros16, k, evt0, 0⟩ : Rcd).cells (.slice none 0 0)).toArray) w := by kernel_rfl
theorem rc_w (era : Int) (f k : Nat) (ev : Evt) (lo : Nat) (u : Value) (ws : List Nat) (h : ws.length = 16) :
    ((⟨era, f, zeros16, k, ev, lo⟩ : Rcd).cells u).take 2 ++ u64s ws ++ ((⟨era, f, zeros16, k, ev, lo⟩ : Rcd).cells u).drop (2 + (u64s ws).length) = (⟨era, f, ws, k, ev, lo⟩ : Rcd).cells u := by
  obtain ⟨a0, a1, a2, a3, a4, a5, a6, a7, a8, a9, a10, a11, a12, a13, a14, a15, rfl⟩ := words16 ws h
  rfl
theorem rc_e (era : Int) (f k : Nat) (ev ev2 : Evt) (lo : Nat) (u u2 : Value) (ws : List Nat) (h : ws.length = 16) :
    ((⟨era, f, ws, k, ev, lo⟩ : Rcd).cells u).take 19 ++ ev2.cells u2 ++ ((⟨era, f, ws, k, ev, lo⟩ : Rcd).cells u).drop (19 + (ev2.cells u2).length) = (⟨era, f, ws, k, ev2, lo⟩ : Rcd).cells u2 := by
  obtain ⟨a0, a1, a2, a3, a4, a5, a6, a7, a8, a9, a10, a11, a12, a13, a14, a15, rfl⟩ := words16 ws h
  rfl
theorem rc_l (era : Int) (f k : Nat) (ev : Evt) (lo lo2 : Nat) (u : Value) (ws : List Nat) (h : ws.length = 16) :
    ((⟨era, f, ws, k, ev, lo⟩ : Rcd).cells u).set 28 (.int .u64 (lo2 : Int)) = (⟨era, f, ws, k, ev, lo2⟩ : Rcd).cells u := by
  obtain ⟨a0, a1, a2, a3, a4, a5, a6, a7, a8, a9, a10, a11, a12, a13, a14, a15, rfl⟩ := words16 ws h
  rfl
theorem rB_cons (g q k : Nat) (l r : List UInt8) (w : World) (R : Rd w g q l 0) (hl : l = UInt8.ofNat k :: r) (hk : k < 256) :
    Calls Try.prog 84 #[.pointer (some ⟨g, 0, none⟩)] w fun e w' => e = .returned (.int .u8 (k : Int)) ∧ Rd w' g q r 0 ∧ Frm [g] w w' := by
  have := rByte_any g q l 0 w R
  have h2 : rsByte l 0 = ⟨(k : Int), r, 0⟩ := by
    rw [hl]
    unfold rsByte
    rw [if_neg (by simp)]
    simp only [u8_ofNat k hk]
  rw [h2] at this
  exact this
theorem rl_u64 (ws : List Nat) : ∀ v ∈ u64s ws, v.oneCell' = true := by
  intro v hv
  unfold u64s at hv
  obtain ⟨y, _, rfl⟩ := List.mem_map.1 hv
  rfl
theorem cutA_blk {ad : Option Addr} {k : Nat} (h : ∀ v, ad = some v → v.block < k) (c lo : Nat) : ∀ v, cutA ad c lo = some v → v.block < k := by
  intro v e
  unfold cutA at e
  split at e
  · exact h v e
  · cases ad with
    | none => cases e
    | some u =>
      simp only [Option.map_some, Option.some.injEq] at e
      rw [← e, show (u.add lo).block = u.block by unfold Addr.add; split <;> rfl]
      exact h u rfl
theorem zero95_len : zero95.length = 29 := rfl
theorem bare_words {x : Rcd} (hg : x.good = true) (h2 : x.what = 2) : x.words = zeros16 ∧ x.ev = evt0 := by
  unfold Rcd.good Rcd.good0 at hg
  rw [if_neg (by omega), if_pos h2] at hg
  unfold Rcd.bare at hg
  simp only [Bool.and_eq_true, decide_eq_true_eq] at hg
  exact ⟨hg.1.1.1, evt_eq hg.1.1.2⟩
theorem read2 (x : Rcd) (ad : Option Addr) (n c : Nat) (l : List UInt8) (w0 : World) (hx : x.ok) (hg : x.good = true) (h2 : x.what = 2) (hb : Bs w0 ad n l) (hl : l = x.bytes) (hz : ad = none → c = 0) (hc : n ≤ c) (hn : n ≤ 140737488351232) :
    Calls Try.prog 72 #[.slice ad n c] w0 fun e w' => ∃ a c, e = .returned (.tuple #[.agg (x.cells (.slice a x.ev.args.length c)).toArray, .int .i64 0]) ∧ Zw w' w0.heap.size (.slice a x.ev.args.length c) x.ev.args ∧ Ext w0 w' := by
  have hbw := bare_words hg h2
  have hw256 : x.what < 256 := by omega
  have hera := good_era hg
  have hEra : ((x.era.toNat : Nat) : Int) = x.era := by omega
  replace hl : l = UInt8.ofNat x.what :: (putU x.era.toNat ++ (putU x.idx ++ (putU x.lost ++ []))) := by
    rw [hl]
    unfold Rcd.bytes Rcd.bytes0
    rw [if_pos hg, if_neg (by omega), if_pos h2]
    simp
  refine calls_has (args := [.slice ad n c]) Try.func72 rfl Try.ntmps72 (Nat.le_of_ble_eq_true rfl) (fun a H => ?_)
  simp only [argl, Nat.reduceAdd] at H
  refine wp_seq_k (fun K1 hK1 => ?_)
  refine e_region (fun R hR => ?_)
  refine e_op H rfl rfl (by decide) (x_alloc H rfl (al_new (z95 _))) ?_
  clear H a; intro a H
  have T2 := Blk.new w0 95 zero95
  have E := (Ext.refl w0).al (.cells zero95.toArray 95)
  obtain ⟨g2, hg2⟩ : ∃ g, g = w0.heap.size := ⟨_, rfl⟩
  rw [← hg2] at H T2
  generalize w0.alloc (.cells zero95.toArray 95) = w1 at *
  refine e_op H rfl rfl (by decide) (x_assign H rfl rfl) ?_
  clear H a; intro a H
  refine e_nil (hR.out _ _ ?_)
  clear hR R
  refine hK1 _ _ ?_
  clear hK1 K1
  refine wp_seq_k (fun K2 hK2 => ?_)
  refine e_region (fun R hR => ?_)
  refine e_op H rfl rfl (by decide) (x_move H rfl rfl) ?_
  clear H a; intro a H
  refine e_callq H rfl rfl (by decide) rfl rfl (Try.call77 _) (newReader_lt ad n c l w1 (E.bs hb) hz hn) ?_
  clear H a
  rintro e wx ⟨gr, q, rfl, Qd, hgr, hqr, hql, En⟩
  refine ⟨_, rfl, fun a H => ?_⟩
  have hlt2 := T2.lt
  replace T2 := T2.ext En
  replace E := E.tr En
  have hs1 := En.sz
  have hgl := (rdB_lt Qd).1
  clear En
  refine e_op H rfl rfl (by decide) (x_assign H rfl rfl) ?_
  clear H a; intro a H
  refine e_nil (hR.out _ _ ?_)
  clear hR R
  refine hK2 _ _ ?_
  clear hK2 K2
  refine wp_seq_k (fun K3 hK3 => ?_)
  refine e_region (fun R hR => ?_)
  refine e_op H rfl rfl (by decide) (x_move H rfl rfl) ?_
  clear H a; intro a H
  refine e_callq H rfl rfl (by decide) rfl rfl (Try.call84 _) (rB_cons gr q x.what l (putU x.era.toNat ++ (putU x.idx ++ (putU x.lost ++ []))) wx Qd hl hw256) ?_
  clear H a
  rintro e wn ⟨rfl, Qd2, Fn⟩
  replace Qd := Qd2
  clear Qd2
  replace T2 := T2.frm Fn (by simp; omega)
  replace E := Fn.ext E (by simp; omega)
  try (replace hql := Nat.lt_of_lt_of_le hql Fn.size)
  clear Fn
  generalize wn = wx at *
  refine ⟨_, rfl, fun a H => ?_⟩
  refine e_op H rfl rfl (by decide) (x_move H rfl rfl) ?_
  clear H a; intro a H
  refine e_callq H rfl rfl (by decide) rfl rfl (Try.call78 _) (rU_put gr q x.era.toNat 8 _ (putU x.idx ++ (putU x.lost ++ [])) wx Qd rfl (by omega) (by omega) (by omega)) ?_
  clear H a
  rintro e wn ⟨rfl, Qd2, Fn⟩
  replace Qd := Qd2
  clear Qd2
  replace T2 := T2.frm Fn (by simp; omega)
  replace E := Fn.ext E (by simp; omega)
  try (replace hql := Nat.lt_of_lt_of_le hql Fn.size)
  clear Fn
  generalize wn = wx at *
  refine ⟨_, rfl, fun a H => ?_⟩
  refine e_op H rfl rfl (by decide) (x_conv H rfl rfl (c_int (z := x.era) Try.underlying56 Try.underlying3 (by rw [IntKind.wrap_i64]; omega))) ?_
  clear H a; intro a H
  refine e_op H rfl rfl (by decide) (x_move H rfl rfl) ?_
  clear H a; intro a H
  refine e_callq H rfl rfl (by decide) rfl rfl (Try.call78 _) (rU_put gr q x.idx 18446744073709551615 _ (putU x.lost ++ []) wx Qd rfl hx.idx (by have := hx.idx; omega) (by omega)) ?_
  clear H a
  rintro e wn ⟨rfl, Qd2, Fn⟩
  replace Qd := Qd2
  clear Qd2
  replace T2 := T2.frm Fn (by simp; omega)
  replace E := Fn.ext E (by simp; omega)
  try (replace hql := Nat.lt_of_lt_of_le hql Fn.size)
  clear Fn
  generalize wn = wx at *
  refine ⟨_, rfl, fun a H => ?_⟩
  refine e_op H rfl rfl (by decide) (x_build H rfl rfl (bldrd _ _ _ _)) ?_
  clear H a; intro a H
  refine e_op H rfl rfl (by decide) (x_alloc H rfl (al_new (z95 _))) ?_
  clear H a; intro a H
  have T5 := Blk.new wx 95 zero95
  have hT2l := T2.lt
  have hgl2 := (rdB_lt Qd).1
  have E5 := (Ext.refl wx).al (.cells zero95.toArray 95)
  have hq5 : q < wx.heap.size := hql
  clear hql
  replace T2 := T2.ext E5
  replace Qd := Qd.ext E5
  replace E := E.tr E5
  obtain ⟨g5, hg5⟩ : ∃ g, g = wx.heap.size := ⟨_, rfl⟩
  rw [← hg5] at H T5 hT2l hgl2 hq5
  clear hg5 E5
  generalize wx.alloc (.cells zero95.toArray 95) = wx at *
  refine e_st H rfl rfl (x_store H rfl rfl rfl (st_row T5 (by kernel_rfl) (by rfl) (by rw [Array.all_eq_true']; intro z hz; exact cells_one (⟨x.era, x.idx, zeros16, x.what, evt0, 0⟩ : Rcd) none 0 0 z (by simpa using hz)))) ?_
  have F5 : Frm [g5] wx (wx.setRow g5 ((⟨x.era, x.idx, zeros16, x.what, evt0, 0⟩ : Rcd).cells (.slice none 0 0)).toArray) := (Frm.refl [g5] wx).grown (grown_setRow wx g5 _) (fun k e => by cases e; exact .inl (by simp))
  replace T2 := T2.frm F5 (by simp; omega)
  replace Qd := Qd.frm F5 (by simp; omega) (by simp; omega)
  replace E := F5.ext E (by simp; omega)
  replace T5 := T5.row ((⟨x.era, x.idx, zeros16, x.what, evt0, 0⟩ : Rcd).cells (.slice none 0 0))
  clear F5
  generalize wx.setRow g5 ((⟨x.era, x.idx, zeros16, x.what, evt0, 0⟩ : Rcd).cells (.slice none 0 0)).toArray = wx at *
  refine e_nil (hR.out _ _ ?_)
  clear hR R
  refine hK3 _ _ ?_
  clear hK3 K3
  refine wp_seq_k (fun K4 hK4 => ?_)
  refine wp_seq_k (fun K5 hK5 => ?_)
  refine e_region (fun R hR => ?_)
  refine e_op H rfl rfl (by decide) (x_move H rfl rfl) ?_
  clear H a; intro a H
  refine e_callq H rfl rfl (by decide) rfl rfl (Try.call86 _) (rErr_any gr q _ 0 wx Qd) ?_
  clear H a
  rintro e wn ⟨rfl, rfl⟩
  refine ⟨_, rfl, fun a H => ?_⟩
  refine e_op H rfl rfl (by decide) (x_binI H rfl rfl rfl (b_neq (b := false) (rfl))) ?_
  clear H a; intro a H
  refine e_nil (hR.out _ _ ?_)
  clear hR R
  refine hK5 _ _ ?_
  clear hK5 K5
  refine c_false H rfl ?_
  refine wp_skip ?_
  refine hK4 _ _ ?_
  clear hK4 K4
  refine wp_seq_k (fun K6 hK6 => ?_)
  refine wp_seq_k (fun K7 hK7 => ?_)
  refine e_region (fun R hR => ?_)
  refine e_op H rfl rfl (by decide) (x_fieldAddr H rfl rfl (fa95_3 _ _)) ?_
  clear H a; intro a H
  refine e_op H rfl rfl (by decide) (x_load H rfl rfl (l_cell Try.isAgg89 (T5.at_ (i := 18) (rc_what (x := ⟨x.era, x.idx, zeros16, x.what, evt0, 0⟩) rfl)))) ?_
  clear H a; intro a H
  refine e_nil (hR.out _ _ ?_)
  clear hR R
  refine hK7 _ _ ?_
  clear hK7 K7
  refine wp_block ?_
  refine wp_seq_k (fun K8 hK8 => ?_)
  refine e_region (fun R hR => ?_)
  refine e_op H rfl rfl (by decide) (x_binI H rfl rfl rfl (b_eql (b := false) (by rw [h2]; rfl))) ?_
  clear H a; intro a H
  refine e_op H rfl rfl (by decide) (x_assign H rfl rfl) ?_
  clear H a; intro a H
  refine e_nil (hR.out _ _ ?_)
  clear hR R
  refine hK8 _ _ ?_
  clear hK8 K8
  refine c_false H rfl ?_
  refine wp_seq_k (fun K9 hK9 => ?_)
  refine e_region (fun R hR => ?_)
  refine e_op H rfl rfl (by decide) (x_binI H rfl rfl rfl (b_eql (b := true) (by rw [h2]; rfl))) ?_
  clear H a; intro a H
  refine e_op H rfl rfl (by decide) (x_assign H rfl rfl) ?_
  clear H a; intro a H
  refine e_nil (hR.out _ _ ?_)
  clear hR R
  refine hK9 _ _ ?_
  clear hK9 K9
  refine c_true H rfl ?_
  refine e_region (fun R hR => ?_)
  refine e_op H rfl rfl (by decide) (x_move H rfl rfl) ?_
  clear H a; intro a H
  refine e_callq H rfl rfl (by decide) rfl rfl (Try.call78 _) (rU_put gr q x.lost 18446744073709551615 _ [] wx Qd rfl hx.lost (by have := hx.lost; omega) (by omega)) ?_
  clear H a
  rintro e wn ⟨rfl, Qd2, Fn⟩
  replace Qd := Qd2
  clear Qd2
  replace T2 := T2.frm Fn (by simp; omega)
  replace T5 := T5.frm Fn (by simp; omega)
  replace E := Fn.ext E (by simp; omega)
  try (replace hql := Nat.lt_of_lt_of_le hql Fn.size)
  clear Fn
  generalize wn = wx at *
  refine ⟨_, rfl, fun a H => ?_⟩
  refine e_op H rfl rfl (by decide) (x_fieldAddr H rfl rfl (fa95_5 _ _)) ?_
  clear H a; intro a H
  refine e_st H rfl rfl (x_store H rfl rfl rfl (st_cell rfl rfl Try.sizeOf56 (T5.frozen _) (T5.isSome 28 (by rw [Rcd.cells_len _ _ rfl]; omega)))) ?_
  replace Qd := Qd.frm ((Frm.refl [g5] wx).st g5 28 (.int .u64 (x.lost : Int)) (.inl (by simp))) (by simp; omega) (by simp; omega)
  replace T2 := T2.far (o := 28) (show g2 ≠ g5 by omega) (.int .u64 (x.lost : Int))
  replace E := E.st (show w0.heap.size ≤ g5 by omega) 28 (.int .u64 (x.lost : Int))
  replace T5 := T5.set_ 28 (.int .u64 (x.lost : Int))
  rw [rc_l _ _ _ _ _ _ _ _ rfl, ← hbw.1, ← hbw.2] at T5
  have Z : Zw (wx.setCell ⟨g5, 28, none⟩ (.int .u64 (x.lost : Int))) w0.heap.size (.slice none 0 0) x.ev.args := by rw [hbw.2]; exact Zw.nil _ _
  generalize wx.setCell ⟨g5, 28, none⟩ (.int .u64 (x.lost : Int)) = wx at *
  refine e_nil (hR.out _ _ ?_)
  clear hR R
  refine hK6 _ _ ?_
  clear hK6 K6
  refine wp_seq_k (fun K10 hK10 => ?_)
  refine wp_seq_k (fun K11 hK11 => ?_)
  refine e_region (fun R hR => ?_)
  refine e_op H rfl rfl (by decide) (x_move H rfl rfl) ?_
  clear H a; intro a H
  refine e_callq H rfl rfl (by decide) rfl rfl (Try.call82 _) (rEnd_any gr q _ 0 wx Qd) ?_
  clear H a
  rintro e wn ⟨rfl, rfl⟩
  refine ⟨_, rfl, fun a H => ?_⟩
  refine e_op H rfl rfl (by decide) (x_binI H rfl rfl rfl (b_neq (b := false) (rfl))) ?_
  clear H a; intro a H
  refine e_op H rfl rfl (by decide) (x_move H rfl rfl) ?_
  clear H a; intro a H
  refine e_opg H (wanted_true H rfl rfl rfl rfl) rfl (by decide) (x_load H rfl rfl (ld_rec T5 hx.words)) ?_
  clear H a; intro a H
  refine e_callqg H (wanted_true H rfl rfl rfl rfl) rfl (by decide) rfl rfl (Try.call90 _) (check_any x (.slice none 0 0) wx hx Z.zl) ?_
  clear H a
  rintro e wn ⟨rfl, En⟩
  refine ⟨_, rfl, fun a H => ?_⟩
  rw [if_pos hg] at H
  replace T2 := T2.ext En
  replace T5 := T5.ext En
  replace E := E.tr En
  replace Z := Z.ext En
  clear En Qd
  refine e_opg H (wanted_true H rfl rfl rfl rfl) rfl (by decide) (x_binI H rfl rfl rfl (b_neq (b := false) (rfl))) ?_
  clear H a; intro a H
  refine e_op H rfl rfl (by decide) (x_pickF H rfl rfl rfl) ?_
  clear H a; intro a H
  refine e_nil (hR.out _ _ ?_)
  clear hR R
  refine hK11 _ _ ?_
  clear hK11 K11
  refine c_false H rfl ?_
  refine wp_skip ?_
  refine hK10 _ _ ?_
  clear hK10 K10
  refine wp_seq_k (fun K12 hK12 => ?_)
  refine e_region (fun R hR => ?_)
  refine e_op H rfl rfl (by decide) (x_load H rfl rfl (ld_rec T5 hx.words)) ?_
  clear H a; intro a H
  refine e_st H rfl rfl (x_store H rfl rfl rfl (st_row T2 (by rw [info95]; simp [Rcd.cells_len _ _ hx.words]) (by simp [Rcd.cells_len _ _ hx.words, zero95]) (by rw [Array.all_eq_true']; intro z hz; exact cells_one x none 0 0 z (by simpa using hz)))) ?_
  refine e_op H rfl rfl (by decide) (x_assign H rfl rfl) ?_
  clear H a; intro a H
  refine e_nil (hR.out _ _ ?_)
  clear hR R
  refine hK12 _ _ ?_
  clear hK12 K12
  refine wp_ret ?_
  have hal : (0 : Nat) = x.ev.args.length := by rw [hbw.2]; rfl
  exact retct H rfl rfl rfl (setRow_heap _ _ _ _ 95 (0, 0) T2) Try.underlying95 rfl (by rw [info95]; simp [Rcd.cells_len _ _ hx.words]) ⟨none, 0, by rw [← hal], by rw [← hal]; exact Z.row T2 (by decide) _, E.row_ (by omega) _⟩
set_option maxHeartbeats 1600000 in
theorem read1 (x : Rcd) (ad : Option Addr) (n c : Nat) (l : List UInt8) (w0 : World) (hx : x.ok) (hg : x.good = true) (h1 : x.what = 1) (hb : Bs w0 ad n l) (hl : l = x.bytes) (hz : ad = none → c = 0) (hc : n ≤ c) (hn : n ≤ 140737488351232) (hb0 : ∀ v, ad = some v → v.block < w0.heap.size) :
    Calls Try.prog 72 #[.slice ad n c] w0 fun e w' => ∃ a c, e = .returned (.tuple #[.agg (x.cells (.slice a x.ev.args.length c)).toArray, .int .i64 0]) ∧ Zw w' w0.heap.size (.slice a x.ev.args.length c) x.ev.args ∧ Ext w0 w' := by
  have he := good_ev hg h1
  have hlo : x.lost = 0 := by
    have hg2 := hg
    unfold Rcd.good Rcd.good0 at hg2
    rw [if_pos h1] at hg2
    simp only [Bool.and_eq_true, decide_eq_true_eq] at hg2
    exact hg2.1.2
  have hcm : x.ev.comp = x.era := by
    have hg2 := hg
    unfold Rcd.good Rcd.good0 at hg2
    rw [if_pos h1] at hg2
    unfold Evt.good at hg2
    simp only [Bool.and_eq_true, decide_eq_true_eq, beq_iff_eq] at hg2
    omega
  have hw256 : x.what < 256 := by omega
  have hera := good_era hg
  have hEra : ((x.era.toNat : Nat) : Int) = x.era := by omega
  replace hl : l = UInt8.ofNat x.what :: (putU x.era.toNat ++ (putU x.idx ++ (clkB x.words ++ x.ev.bytes))) := by
    rw [hl]
    unfold Rcd.bytes Rcd.bytes0
    rw [if_pos hg, if_pos h1]
    simp
  have hln : l.length = n := hb.leng
  have hrl : (clkB x.words ++ x.ev.bytes).length ≤ n := by
    rw [← hln, hl]
    simp only [List.length_cons, List.length_append]
    omega
  have hdrop : l.drop (n - (clkB x.words ++ x.ev.bytes).length) = clkB x.words ++ x.ev.bytes := by
    have h3 : l = (UInt8.ofNat x.what :: (putU x.era.toNat ++ putU x.idx)) ++ (clkB x.words ++ x.ev.bytes) := by rw [hl]; simp
    have h4 : n - (clkB x.words ++ x.ev.bytes).length = (UInt8.ofNat x.what :: (putU x.era.toNat ++ putU x.idx)).length := by
      rw [← hln]
      conv => lhs; rw [h3]
      rw [List.length_append]
      omega
    rw [h4]
    conv => lhs; rw [h3]
    rw [List.drop_left]
  refine calls_has (args := [.slice ad n c]) Try.func72 rfl Try.ntmps72 (Nat.le_of_ble_eq_true rfl) (fun a H => ?_)
  simp only [argl, Nat.reduceAdd] at H
  refine wp_seq_k (fun K1 hK1 => ?_)
  refine e_region (fun R hR => ?_)
  refine e_op H rfl rfl (by decide) (x_alloc H rfl (al_new (z95 _))) ?_
  clear H a; intro a H
  have T2 := Blk.new w0 95 zero95
  have E := (Ext.refl w0).al (.cells zero95.toArray 95)
  obtain ⟨g2, hg2⟩ : ∃ g, g = w0.heap.size := ⟨_, rfl⟩
  rw [← hg2] at H T2
  generalize w0.alloc (.cells zero95.toArray 95) = w1 at *
  refine e_op H rfl rfl (by decide) (x_assign H rfl rfl) ?_
  clear H a; intro a H
  refine e_nil (hR.out _ _ ?_)
  clear hR R
  refine hK1 _ _ ?_
  clear hK1 K1
  refine wp_seq_k (fun K2 hK2 => ?_)
  refine e_region (fun R hR => ?_)
  refine e_op H rfl rfl (by decide) (x_move H rfl rfl) ?_
  clear H a; intro a H
  refine e_callq H rfl rfl (by decide) rfl rfl (Try.call77 _) (newReader_lt ad n c l w1 (E.bs hb) hz hn) ?_
  clear H a
  rintro e wx ⟨gr, q, rfl, Qd, hgr, hqr, hql, En⟩
  refine ⟨_, rfl, fun a H => ?_⟩
  have hlt2 := T2.lt
  replace T2 := T2.ext En
  replace E := E.tr En
  have hs1 := En.sz
  have hgl := (rdB_lt Qd).1
  clear En
  refine e_op H rfl rfl (by decide) (x_assign H rfl rfl) ?_
  clear H a; intro a H
  refine e_nil (hR.out _ _ ?_)
  clear hR R
  refine hK2 _ _ ?_
  clear hK2 K2
  refine wp_seq_k (fun K3 hK3 => ?_)
  refine e_region (fun R hR => ?_)
  refine e_op H rfl rfl (by decide) (x_move H rfl rfl) ?_
  clear H a; intro a H
  refine e_callq H rfl rfl (by decide) rfl rfl (Try.call84 _) (rB_cons gr q x.what l (putU x.era.toNat ++ (putU x.idx ++ (clkB x.words ++ x.ev.bytes))) wx Qd hl hw256) ?_
  clear H a
  rintro e wn ⟨rfl, Qd2, Fn⟩
  replace Qd := Qd2
  clear Qd2
  replace T2 := T2.frm Fn (by simp; omega)
  replace E := Fn.ext E (by simp; omega)
  try (replace hql := Nat.lt_of_lt_of_le hql Fn.size)
  clear Fn
  generalize wn = wx at *
  refine ⟨_, rfl, fun a H => ?_⟩
  refine e_op H rfl rfl (by decide) (x_move H rfl rfl) ?_
  clear H a; intro a H
  refine e_callq H rfl rfl (by decide) rfl rfl (Try.call78 _) (rU_put gr q x.era.toNat 8 _ (putU x.idx ++ (clkB x.words ++ x.ev.bytes)) wx Qd rfl (by omega) (by omega) (by omega)) ?_
  clear H a
  rintro e wn ⟨rfl, Qd2, Fn⟩
  replace Qd := Qd2
  clear Qd2
  replace T2 := T2.frm Fn (by simp; omega)
  replace E := Fn.ext E (by simp; omega)
  try (replace hql := Nat.lt_of_lt_of_le hql Fn.size)
  clear Fn
  generalize wn = wx at *
  refine ⟨_, rfl, fun a H => ?_⟩
  refine e_op H rfl rfl (by decide) (x_conv H rfl rfl (c_int (z := x.era) Try.underlying56 Try.underlying3 (by rw [IntKind.wrap_i64]; omega))) ?_
  clear H a; intro a H
  refine e_op H rfl rfl (by decide) (x_move H rfl rfl) ?_
  clear H a; intro a H
  refine e_callq H rfl rfl (by decide) rfl rfl (Try.call78 _) (rU_put gr q x.idx 18446744073709551615 _ (clkB x.words ++ x.ev.bytes) wx Qd rfl hx.idx (by have := hx.idx; omega) (by omega)) ?_
  clear H a
  rintro e wn ⟨rfl, Qd2, Fn⟩
  replace Qd := Qd2
  clear Qd2
  replace T2 := T2.frm Fn (by simp; omega)
  replace E := Fn.ext E (by simp; omega)
  try (replace hql := Nat.lt_of_lt_of_le hql Fn.size)
  clear Fn
  generalize wn = wx at *
  refine ⟨_, rfl, fun a H => ?_⟩
  refine e_op H rfl rfl (by decide) (x_build H rfl rfl (bldrd _ _ _ _)) ?_
  clear H a; intro a H
  refine e_op H rfl rfl (by decide) (x_alloc H rfl (al_new (z95 _))) ?_
  clear H a; intro a H
  have T5 := Blk.new wx 95 zero95
  have hT2l := T2.lt
  have hgl2 := (rdB_lt Qd).1
  have E5 := (Ext.refl wx).al (.cells zero95.toArray 95)
  have hq5 : q < wx.heap.size := hql
  clear hql
  replace T2 := T2.ext E5
  replace Qd := Qd.ext E5
  replace E := E.tr E5
  obtain ⟨g5, hg5⟩ : ∃ g, g = wx.heap.size := ⟨_, rfl⟩
  rw [← hg5] at H T5 hT2l hgl2 hq5
  clear hg5 E5
  generalize wx.alloc (.cells zero95.toArray 95) = wx at *
  refine e_st H rfl rfl (x_store H rfl rfl rfl (st_row T5 (by kernel_rfl) (by rfl) (by rw [Array.all_eq_true']; intro z hz; exact cells_one (⟨x.era, x.idx, zeros16, x.what, evt0, 0⟩ : Rcd) none 0 0 z (by simpa using hz)))) ?_
  have F5 : Frm [g5] wx (wx.setRow g5 ((⟨x.era, x.idx, zeros16, x.what, evt0, 0⟩ : Rcd).cells (.slice none 0 0)).toArray) := (Frm.refl [g5] wx).grown (grown_setRow wx g5 _) (fun k e => by cases e; exact .inl (by simp))
  replace T2 := T2.frm F5 (by simp; omega)
  replace Qd := Qd.frm F5 (by simp; omega) (by simp; omega)
  replace E := F5.ext E (by simp; omega)
  replace T5 := T5.row ((⟨x.era, x.idx, zeros16, x.what, evt0, 0⟩ : Rcd).cells (.slice none 0 0))
  clear F5
  generalize wx.setRow g5 ((⟨x.era, x.idx, zeros16, x.what, evt0, 0⟩ : Rcd).cells (.slice none 0 0)).toArray = wx at *
  refine e_nil (hR.out _ _ ?_)
  clear hR R
  refine hK3 _ _ ?_
  clear hK3 K3
  refine wp_seq_k (fun K4 hK4 => ?_)
  refine wp_seq_k (fun K5 hK5 => ?_)
  refine e_region (fun R hR => ?_)
  refine e_op H rfl rfl (by decide) (x_move H rfl rfl) ?_
  clear H a; intro a H
  refine e_callq H rfl rfl (by decide) rfl rfl (Try.call86 _) (rErr_any gr q _ 0 wx Qd) ?_
  clear H a
  rintro e wn ⟨rfl, rfl⟩
  refine ⟨_, rfl, fun a H => ?_⟩
  refine e_op H rfl rfl (by decide) (x_binI H rfl rfl rfl (b_neq (b := false) (rfl))) ?_
  clear H a; intro a H
  refine e_nil (hR.out _ _ ?_)
  clear hR R
  refine hK5 _ _ ?_
  clear hK5 K5
  refine c_false H rfl ?_
  refine wp_skip ?_
  refine hK4 _ _ ?_
  clear hK4 K4
  refine wp_seq_k (fun K6 hK6 => ?_)
  refine wp_seq_k (fun K7 hK7 => ?_)
  refine e_region (fun R hR => ?_)
  refine e_op H rfl rfl (by decide) (x_fieldAddr H rfl rfl (fa95_3 _ _)) ?_
  clear H a; intro a H
  refine e_op H rfl rfl (by decide) (x_load H rfl rfl (l_cell Try.isAgg89 (T5.at_ (i := 18) (rc_what (x := ⟨x.era, x.idx, zeros16, x.what, evt0, 0⟩) rfl)))) ?_
  clear H a; intro a H
  refine e_nil (hR.out _ _ ?_)
  clear hR R
  refine hK7 _ _ ?_
  clear hK7 K7
  refine wp_block ?_
  refine wp_seq_k (fun K8 hK8 => ?_)
  refine e_region (fun R hR => ?_)
  refine e_op H rfl rfl (by decide) (x_binI H rfl rfl rfl (b_eql (b := true) (by rw [h1]; rfl))) ?_
  clear H a; intro a H
  refine e_op H rfl rfl (by decide) (x_assign H rfl rfl) ?_
  clear H a; intro a H
  refine e_nil (hR.out _ _ ?_)
  clear hR R
  refine hK8 _ _ ?_
  clear hK8 K8
  refine c_true H rfl ?_
  refine wp_seq_k (fun K9 hK9 => ?_)
  refine e_region (fun R hR => ?_)
  refine e_op H rfl rfl (by decide) (x_move H rfl rfl) ?_
  clear H a; intro a H
  refine e_op H rfl rfl (by decide) (x_move H rfl rfl) ?_
  clear H a; intro a H
  refine e_op H rfl rfl (by decide) (x_builtin H rfl rfl (fun cs => len_sl Try.underlying22)) ?_
  clear H a; intro a H
  refine e_op H rfl rfl (by decide) (x_move H rfl rfl) ?_
  clear H a; intro a H
  refine e_callq H rfl rfl (by decide) rfl rfl (Try.call80 _) (rLeft_any gr q _ 0 wx Qd) ?_
  clear H a
  rintro e wn ⟨rfl, rfl⟩
  refine ⟨_, rfl, fun a H => ?_⟩
  refine e_op H rfl rfl (by decide) (x_binI H rfl rfl rfl (b_sub (z := ((n - (clkB x.words ++ x.ev.bytes).length : Nat) : Int)) (by rw [IntKind.wrap_i64]; omega))) ?_
  clear H a; intro a H
  refine e_op H rfl rfl (by decide) (x_slice H rfl rfl rfl rfl (sl_lo (lo := n - (clkB x.words ++ x.ev.bytes).length) Try.underlying22 Try.sizeOf5 rfl (by omega))) ?_
  clear H a; intro a H
  refine e_op H rfl rfl (by decide) (x_assign H rfl rfl) ?_
  clear H a; intro a H
  refine e_nil (hR.out _ _ ?_)
  clear hR R
  have hb6 := bs_lo (E.bs hb) (n - (clkB x.words ++ x.ev.bytes).length) (by omega) hc
  rw [hdrop, show n - (n - (clkB x.words ++ x.ev.bytes).length) = (clkB x.words ++ x.ev.bytes).length by omega] at hb6
  rw [show n - (n - (clkB x.words ++ x.ev.bytes).length) = (clkB x.words ++ x.ev.bytes).length by omega] at H
  obtain ⟨a6, ha6⟩ : ∃ a6, a6 = (cutA ad c (n - (clkB x.words ++ x.ev.bytes).length)) := ⟨_, rfl⟩
  obtain ⟨c6, hc6⟩ : ∃ c6, c6 = c - (n - (clkB x.words ++ x.ev.bytes).length) := ⟨_, rfl⟩
  rw [← ha6] at hb6 H
  rw [← hc6] at H
  have hz6 : a6 = none → c6 = 0 := by
    intro e
    rw [ha6] at e
    unfold cutA at e
    have hz2 := hz
    cases had : ad with
    | none => have := hz2 had; omega
    | some v => rw [had] at e; split at e <;> simp at e
  have hb6n : ∀ v, a6 = some v → v.block < w0.heap.size := by rw [ha6]; exact cutA_blk hb0 _ _
  clear ha6
  refine hK9 _ _ ?_
  clear hK9 K9
  refine wp_seq_k (fun K10 hK10 => ?_)
  refine e_region (fun R hR => ?_)
  refine e_op H rfl rfl (by decide) (x_move H rfl rfl) ?_
  clear H a; intro a H
  refine e_callq H rfl rfl (by decide) rfl rfl (Try.call119 _) (vread_any x.words x.ev.bytes a6 (clkB x.words ++ x.ev.bytes).length c6 (clkB x.words ++ x.ev.bytes) wx hb6 rfl (by omega) (by omega) hx.words hx.w64) ?_
  clear H a
  rintro e wn ⟨rfl, En⟩
  replace T2 := T2.ext En
  replace T5 := T5.ext En
  replace hb6 := En.bs hb6
  replace E := E.tr En
  clear En Qd
  generalize wn = wx at *
  refine ⟨_, rfl, fun a H => ?_⟩
  refine e_op H rfl rfl (by decide) (x_move H rfl rfl) ?_
  clear H a; intro a H
  refine e_op H rfl rfl (by decide) (x_extract H rfl rfl (v := .agg (u64s x.words).toArray) rfl) ?_
  clear H a; intro a H
  refine e_op H rfl rfl (by decide) (x_extract H rfl rfl (v := .int .i64 (((clkB x.words).length : Nat) : Int)) rfl) ?_
  clear H a; intro a H
  refine e_op H rfl rfl (by decide) (x_extract H rfl rfl (v := .int .i64 0) rfl) ?_
  clear H a; intro a H
  refine e_op H rfl rfl (by decide) (x_alloc H rfl (al_new (z88 _))) ?_
  clear H a; intro a H
  refine e_st H rfl rfl (x_store H rfl rfl rfl (st_row (Blk.new wx 88 (u64s zeros16)) (by rw [info88]; simp [u64s_len, hx.words]) (by simp [u64s_len, hx.words, zeros16]) (by rw [Array.all_eq_true']; intro z hz; exact rl_u64 _ z (by simpa using hz)))) ?_
  have T7 := (Blk.new wx 88 (u64s zeros16)).row (u64s x.words)
  have E7 := ((Ext.refl wx).al (.cells (u64s zeros16).toArray 88)).row_ (Nat.le_refl _) (u64s x.words).toArray
  replace T2 := T2.ext E7
  have hT5l := T5.lt
  replace T5 := T5.ext E7
  replace hb6 := E7.bs hb6
  replace E := E.tr E7
  obtain ⟨g7, hg7⟩ : ∃ g, g = wx.heap.size := ⟨_, rfl⟩
  rw [← hg7] at H T7 T2 T5 hb6 E hT5l
  rw [← hg7]
  clear E7
  generalize (wx.alloc (.cells (u64s zeros16).toArray 88)).setRow g7 (u64s x.words).toArray = wx at *
  refine e_op H rfl rfl (by decide) (x_assign H rfl rfl) ?_
  clear H a; intro a H
  refine e_op H rfl rfl (by decide) (x_assign H rfl rfl) ?_
  clear H a; intro a H
  refine e_nil (hR.out _ _ ?_)
  clear hR R
  refine hK10 _ _ ?_
  clear hK10 K10
  refine wp_seq_k (fun K11 hK11 => ?_)
  refine wp_seq_k (fun K12 hK12 => ?_)
  refine e_region (fun R hR => ?_)
  refine e_op H rfl rfl (by decide) (x_move H rfl rfl) ?_
  clear H a; intro a H
  refine e_op H rfl rfl (by decide) (x_binI H rfl rfl rfl (b_neq (b := false) (rfl))) ?_
  clear H a; intro a H
  refine e_nil (hR.out _ _ ?_)
  clear hR R
  refine hK12 _ _ ?_
  clear hK12 K12
  refine c_false H rfl ?_
  refine wp_skip ?_
  refine hK11 _ _ ?_
  clear hK11 K11
  refine wp_seq_k (fun K13 hK13 => ?_)
  refine e_region (fun R hR => ?_)
  refine e_op H rfl rfl (by decide) (x_load H rfl rfl (ld_88 T7 (by rw [u64s_len, hx.words]))) ?_
  clear H a; intro a H
  refine e_op H rfl rfl (by decide) (x_fieldAddr H rfl rfl (fa95_2 _ _)) ?_
  clear H a; intro a H
  refine e_st H rfl rfl (x_store H rfl rfl rfl (st_part T5 (fun w => by rw [u64s_len, hx.words]; exact size88 w) (by rw [u64s_len, hx.words, Rcd.cells_len _ _ rfl]; omega) (rl_u64 _))) ?_
  rw [rc_w _ _ _ _ _ _ _ hx.words]
  have F5 : Frm [g5] wx (wx.setRow g5 ((⟨x.era, x.idx, x.words, x.what, evt0, 0⟩ : Rcd).cells (.slice none 0 0)).toArray) := (Frm.refl [g5] wx).grown (grown_setRow wx g5 _) (fun k e => by cases e; exact .inl (by simp))
  replace T2 := T2.frm F5 (by simp; omega)
  replace hb6 := hb6.frm F5 (fun b off e => by have := hb6n _ e; simp only at this; simp; omega)
  replace E := F5.ext E (by simp; omega)
  replace T5 := T5.row ((⟨x.era, x.idx, x.words, x.what, evt0, 0⟩ : Rcd).cells (.slice none 0 0))
  clear F5
  generalize wx.setRow g5 ((⟨x.era, x.idx, x.words, x.what, evt0, 0⟩ : Rcd).cells (.slice none 0 0)).toArray = wx at *
  refine e_nil (hR.out _ _ ?_)
  clear hR R
  refine hK13 _ _ ?_
  clear hK13 K13
  refine wp_seq_k (fun K14 hK14 => ?_)
  refine e_region (fun R hR => ?_)
  have hb9 : Bs wx (cutA a6 c6 (clkB x.words).length) ((clkB x.words ++ x.ev.bytes).length - (clkB x.words).length) x.ev.bytes := by
    have h := bs_lo hb6 (clkB x.words).length (by simp only [List.length_append]; omega) (show (clkB x.words ++ x.ev.bytes).length ≤ c6 by omega)
    rw [List.drop_left] at h
    exact h
  have hz9 : cutA a6 c6 (clkB x.words).length = none → c6 - (clkB x.words).length = 0 := by
    intro e
    unfold cutA at e
    cases ha : a6 with
    | none => have := hz6 ha; omega
    | some v => rw [ha] at e; split at e <;> simp at e
  refine e_op H rfl rfl (by decide) (x_move H rfl rfl) ?_
  clear H a; intro a H
  refine e_op H rfl rfl (by decide) (x_move H rfl rfl) ?_
  clear H a; intro a H
  refine e_op H rfl rfl (by decide) (x_slice H rfl rfl rfl rfl (sl_lo (lo := (clkB x.words).length) Try.underlying22 Try.sizeOf5 rfl (by simp only [List.length_append]; omega))) ?_
  clear H a; intro a H
  refine e_callq H rfl rfl (by decide) rfl rfl (Try.call77 _) (newReader_lt _ ((clkB x.words ++ x.ev.bytes).length - (clkB x.words).length) _ x.ev.bytes wx hb9 hz9 (by omega)) ?_
  clear H a
  rintro e wn ⟨gs, qs, rfl, Qd, hgs, hqs, hqsl, En⟩
  refine ⟨_, rfl, fun a H => ?_⟩
  have hT5l2 := T5.lt
  replace T2 := T2.ext En
  replace T5 := T5.ext En
  replace E := E.tr En
  have hs9 := En.sz
  have hgsl := (rdB_lt Qd).1
  clear En
  generalize wn = wx at *
  refine e_op H rfl rfl (by decide) (x_assign H rfl rfl) ?_
  clear H a; intro a H
  refine e_nil (hR.out _ _ ?_)
  clear hR R
  refine hK14 _ _ ?_
  clear hK14 K14
  refine e_region (fun R hR => ?_)
  refine e_op H rfl rfl (by decide) (x_move H rfl rfl) ?_
  clear H a; intro a H
  refine e_op H rfl rfl (by decide) (x_fieldAddr H rfl rfl (fa95_0 _ _)) ?_
  clear H a; intro a H
  refine e_op H rfl rfl (by decide) (x_load H rfl rfl (l_cell Try.isAgg3 (T5.at_ (i := 0) (v := .int .i64 x.ev.comp) (by rw [hcm]; rfl)))) ?_
  clear H a; intro a H
  refine e_callq H rfl rfl (by decide) rfl rfl (Try.call120 _) (readEvent_any gs qs x.ev [] x.ev.bytes wx Qd (by simp) hqsl hx.ev he.1 he.2.1.2 he.2.2.1 he.2.2.2.1 he.2.2.2.2.1 he.2.2.2.2.2.1 he.2.2.2.2.2.2) ?_
  clear H a
  rintro e wn ⟨ua, uc, rfl, Z, Qd2, Fn⟩
  replace Qd := Qd2
  clear Qd2
  replace T2 := T2.frm Fn (by simp; omega)
  replace T5 := T5.frm Fn (by simp; omega)
  replace Z := Z.mono E.sz
  replace E := Fn.ext E (by simp; omega)
  clear Fn
  generalize wn = wx at *
  refine ⟨_, rfl, fun a H => ?_⟩
  refine e_op H rfl rfl (by decide) (x_fieldAddr H rfl rfl (fa95_4 _ _)) ?_
  clear H a; intro a H
  refine e_st H rfl rfl (x_store H rfl rfl rfl (st_part T5 size93 (by rw [Rcd.cells_len (⟨x.era, x.idx, x.words, x.what, evt0, 0⟩ : Rcd) _ hx.words, Evt.cells_len]; omega) (evt_one _ ua _ uc))) ?_
  rw [rc_e _ _ _ _ _ _ _ _ _ hx.words]
  have hX : (⟨x.era, x.idx, x.words, x.what, x.ev, 0⟩ : Rcd) = x := by rw [← hlo]
  rw [hX]
  have F5 : Frm [g5] wx (wx.setRow g5 (x.cells (.slice ua x.ev.args.length uc)).toArray) := (Frm.refl [g5] wx).grown (grown_setRow wx g5 _) (fun k e => by cases e; exact .inl (by simp))
  replace T2 := T2.frm F5 (by simp; omega)
  replace Qd := Qd.frm F5 (by simp; omega) (by simp; omega)
  replace Z := Z.row T5 (by decide) (x.cells (.slice ua x.ev.args.length uc)).toArray
  replace E := F5.ext E (by simp; omega)
  replace T5 := T5.row (x.cells (.slice ua x.ev.args.length uc))
  clear F5
  generalize wx.setRow g5 (x.cells (.slice ua x.ev.args.length uc)).toArray = wx at *
  refine e_nil (hR.out _ _ ?_)
  clear hR R
  refine hK6 _ _ ?_
  clear hK6 K6
  refine wp_seq_k (fun K15 hK15 => ?_)
  refine wp_seq_k (fun K16 hK16 => ?_)
  refine e_region (fun R hR => ?_)
  refine e_op H rfl rfl (by decide) (x_move H rfl rfl) ?_
  clear H a; intro a H
  refine e_callq H rfl rfl (by decide) rfl rfl (Try.call82 _) (rEnd_any gs qs _ 0 wx Qd) ?_
  clear H a
  rintro e wn ⟨rfl, rfl⟩
  refine ⟨_, rfl, fun a H => ?_⟩
  refine e_op H rfl rfl (by decide) (x_binI H rfl rfl rfl (b_neq (b := false) (rfl))) ?_
  clear H a; intro a H
  refine e_op H rfl rfl (by decide) (x_move H rfl rfl) ?_
  clear H a; intro a H
  refine e_opg H (wanted_true H rfl rfl rfl rfl) rfl (by decide) (x_load H rfl rfl (ld_rec T5 hx.words)) ?_
  clear H a; intro a H
  refine e_callqg H (wanted_true H rfl rfl rfl rfl) rfl (by decide) rfl rfl (Try.call90 _) (check_any x (.slice ua x.ev.args.length uc) wx hx Z.zl) ?_
  clear H a
  rintro e wn ⟨rfl, En⟩
  refine ⟨_, rfl, fun a H => ?_⟩
  rw [if_pos hg] at H
  replace T2 := T2.ext En
  replace T5 := T5.ext En
  replace E := E.tr En
  replace Z := Z.ext En
  clear En Qd
  refine e_opg H (wanted_true H rfl rfl rfl rfl) rfl (by decide) (x_binI H rfl rfl rfl (b_neq (b := false) (rfl))) ?_
  clear H a; intro a H
  refine e_op H rfl rfl (by decide) (x_pickF H rfl rfl rfl) ?_
  clear H a; intro a H
  refine e_nil (hR.out _ _ ?_)
  clear hR R
  refine hK16 _ _ ?_
  clear hK16 K16
  refine c_false H rfl ?_
  refine wp_skip ?_
  refine hK15 _ _ ?_
  clear hK15 K15
  refine wp_seq_k (fun K17 hK17 => ?_)
  refine e_region (fun R hR => ?_)
  refine e_op H rfl rfl (by decide) (x_load H rfl rfl (ld_rec T5 hx.words)) ?_
  clear H a; intro a H
  refine e_st H rfl rfl (x_store H rfl rfl rfl (st_row T2 (by rw [info95]; simp [Rcd.cells_len _ _ hx.words]) (by simp [Rcd.cells_len _ _ hx.words, zero95]) (by rw [Array.all_eq_true']; intro z hz; exact cells_one x ua x.ev.args.length uc z (by simpa using hz)))) ?_
  refine e_op H rfl rfl (by decide) (x_assign H rfl rfl) ?_
  clear H a; intro a H
  refine e_nil (hR.out _ _ ?_)
  clear hR R
  refine hK17 _ _ ?_
  clear hK17 K17
  refine wp_ret ?_
  exact retct H rfl rfl rfl (setRow_heap _ _ _ _ 95 (0, 0) T2) Try.underlying95 rfl (by rw [info95]; simp [Rcd.cells_len _ _ hx.words]) ⟨_, _, rfl, Z.row T2 (by decide) _, E.row_ (by omega) _⟩
theorem read_any (x : Rcd) (ad : Option Addr) (n c : Nat) (w0 : World) (hx : x.ok) (hg : x.good = true) (h3 : x.what ≠ 3) (hb : Bs w0 ad n x.bytes) (hz : ad = none → c = 0) (hc : n ≤ c) (hn : n ≤ 140737488351232) (hb0 : ∀ v, ad = some v → v.block < w0.heap.size) :
    Calls Try.prog 72 #[.slice ad n c] w0 fun e w' => ∃ a c, e = .returned (.tuple #[.agg (x.cells (.slice a x.ev.args.length c)).toArray, .int .i64 0]) ∧ Zw w' w0.heap.size (.slice a x.ev.args.length c) x.ev.args ∧ Ext w0 w' := by
  rcases good_what hg with h | h | h
  · exact read1 x ad n c _ w0 hx hg h hb rfl hz hc hn hb0
  · exact read2 x ad n c _ w0 hx hg h hb rfl hz hc hn
  · exact absurd h h3
end Go.Proofs.Ytknllmcpogoeoaa
