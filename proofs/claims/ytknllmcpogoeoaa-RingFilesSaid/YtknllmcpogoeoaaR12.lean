/- Records, walked. -/
import Derived.Test.YtknllmcpogoeoaaR11
namespace Go.Proofs.Ytknllmcpogoeoaa
open Go.RowKit
set_option linter.unusedVariables false
set_option linter.unusedSimpArgs false
set_option maxRecDepth 100000
theorem bldmark (era : Int) (f l : Nat) (w : World) : (Instr.build 95 #[(0, .int .i64 era), (1, .int .u64 (f : Int)), (3, .int .u8 2), (5, .int .u64 (l : Int))]).run Try.prog w = .ok (.agg ((⟨era, f, zeros16, 2, evt0, l⟩ : Rcd).cells (.slice none 0 0)).toArray) w := by kernel_rfl
theorem lost_lt (r : Rg) : r.lost < 18446744073709551616 := by
  unfold Rg.lost
  split <;> exact Nat.mod_lt _ (by omega)
theorem mark_ok {w : World} {B g : Nat} {v : Value} {ps : List (Rcd × Value)} {r : Rg} (R0 : Rn w B g v ps r) : (markR r).ok :=
  ⟨R0.e1, R0.n1, by simp [markR, zeros16], fun z hz => by have := (List.mem_replicate.1 hz).2; omega, by simp [markR], evt0_ok, lost_lt r⟩
theorem Rl.len {w : World} {B : Nat} {a : Option Addr} {n c : Nat} {ps : List (Rcd × Value)} (h : Rl w B (.slice a n c) ps) : n = ps.length := by
  obtain ⟨a', c', e, _⟩ := h.row.shape
  simp only [Value.slice.injEq] at e
  exact e.2.1
def recs0 (r : Rg) : List Rcd := if 0 < r.lost then [markR r] else []
theorem recs_eq (r : Rg) : r.records = recs0 r ++ r.list := by
  unfold Rg.records recs0
  split <;> simp
theorem records_any (B g : Nat) (v : Value) (ps : List (Rcd × Value)) (r : Rg) (w0 : World) (R0 : Rn w0 B g v ps r) (hn : ps.length ≤ 1000000) : Calls Try.prog 69 #[.pointer (some ⟨g, 0, none⟩)] w0 fun e w' =>
    ∃ v' qs, e = .returned v' ∧ Rl w' w0.heap.size v' qs ∧ qs.map (·.1) = r.records ∧ Ext w0 w' := by
  obtain ⟨sa, sc, rfl, hsc, hsn⟩ := R0.lst.row.shape
  refine calls_has (args := [.pointer (some ⟨g, 0, none⟩)]) Try.func69 rfl Try.ntmps69 (Nat.le_of_ble_eq_true rfl) (fun a H => ?_)
  simp only [argl, Nat.reduceAdd] at H
  refine wp_seq_k (fun K1 hK1 => ?_)
  refine e_region (fun R hR => ?_)
  refine e_op H rfl rfl (by decide) (x_assign H rfl rfl) ?_
  clear H a; intro a H
  refine e_nil (hR.out _ _ ?_)
  clear hR R
  refine hK1 _ _ ?_
  clear hK1 K1
  refine wp_seq_k (fun K2 hK2 => ?_)
  refine wp_seq_k (fun K3 hK3 => ?_)
  refine e_region (fun R hR => ?_)
  refine e_op H rfl rfl (by decide) (x_move H rfl rfl) ?_
  clear H a; intro a H
  refine e_op H rfl rfl (by decide) (x_bin H rfl rfl rfl (by rw [eqGuard_at_pointer]; rfl) (b_pnil (c := false) under81 rfl)) ?_
  clear H a; intro a H
  refine e_nil (hR.out _ _ ?_)
  clear hR R
  refine hK3 _ _ ?_
  clear hK3 K3
  refine c_false H rfl ?_
  refine wp_skip ?_
  refine hK2 _ _ ?_
  clear hK2 K2
  refine wp_seq_k (fun K4 hK4 => ?_)
  refine e_region (fun R hR => ?_)
  refine e_op H rfl rfl (by decide) (x_assign H rfl rfl) ?_
  clear H a; intro a H
  refine e_nil (hR.out _ _ ?_)
  clear hR R
  refine hK4 _ _ ?_
  clear hK4 K4
  refine wp_seq_k (fun K5 hK5 => ?_)
  refine wp_seq_k (fun K6 hK6 => ?_)
  refine e_region (fun R hR => ?_)
  refine e_op H rfl rfl (by decide) (x_move H rfl rfl) ?_
  clear H a; intro a H
  refine e_callq H rfl rfl (by decide) rfl rfl (Try.call88 _) (lost_any B g _ ps r w0 R0) ?_
  clear H a
  rintro e w2 ⟨rfl, E2⟩
  refine ⟨_, rfl, fun a H => ?_⟩
  have RB := R0.blk.ext E2
  refine e_op H rfl rfl (by decide) (x_assign H rfl rfl) ?_
  clear H a; intro a H
  refine e_nil (hR.out _ _ ?_)
  clear hR R
  refine hK6 _ _ ?_
  clear hK6 K6
  refine wp_seq_k (fun K7 hK7 => ?_)
  refine e_region (fun R hR => ?_)
  refine e_op H rfl rfl (by decide) (x_move H rfl rfl) ?_
  clear H a; intro a H
  refine e_op H rfl rfl (by decide) (x_binI H rfl rfl rfl (b_gtr (b := decide (0 < r.lost)) (decide_eq_decide.2 (by omega)))) ?_
  clear H a; intro a H
  refine e_nil (hR.out _ _ ?_)
  clear hR R
  refine hK7 _ _ ?_
  clear hK7 K7
  refine Code.wp_mono (Q := fun e a w => e = Exit.normal ∧ ∃ va c qs, Has a 42 [(0, .pointer (some ⟨g, 0, none⟩)), (3, .slice va qs.length c)] ∧ Rl w w0.heap.size (.slice va qs.length c) qs ∧ qs.map (·.1) = recs0 r ∧ Ext w0 w) (fun e a w hM => ?_) ?_
  · skip
    clear H RB
    obtain ⟨rfl, va, c, qs, H, RL, hqs, E⟩ := hM
    have RB := R0.blk.ext E
    refine hK5 _ _ ?_
    clear hK5 K5
    refine wp_seq_k (fun K8 hK8 => ?_)
    refine wp_seq_k (fun K9 hK9 => ?_)
    refine e_region (fun R hR => ?_)
    refine e_op H rfl rfl (by decide) (x_move H rfl rfl) ?_
    clear H a; intro a H
    refine e_op H rfl rfl (by decide) (x_nilCheck H rfl rfl) ?_
    clear H a; intro a H
    refine e_op H rfl rfl (by decide) (x_fieldAddr H rfl rfl (fa191_2 _ _)) ?_
    clear H a; intro a H
    refine e_op H rfl rfl (by decide) (x_load H rfl rfl (l_cell Try.isAgg84 (RB.at_ (i := 2) rfl))) ?_
    clear H a; intro a H
    refine e_op H rfl rfl (by decide) (x_builtin H rfl rfl (fun cs => len_sl under84)) ?_
    clear H a; intro a H
    refine e_op H rfl rfl (by decide) (x_move H rfl rfl) ?_
    clear H a; intro a H
    refine e_nil (hR.out _ _ ?_)
    clear hR R
    refine hK9 _ _ ?_
    clear hK9 K9
    refine wp_block ?_
    refine wp_loop_ghost (fun n a w => ∃ i va c qs, i ≤ ps.length ∧ n = ps.length - i ∧ qs.map (·.1) = recs0 r ++ r.list.take i ∧ qs.length ≤ i + 1 ∧ Has a 42 [(3, .slice va qs.length c), (29, .slice sa ps.length sc), (30, .int .i64 ((ps.length : Nat) : Int)), (31, .int .i64 (i : Int))] ∧ Rl w w0.heap.size (.slice va qs.length c) qs ∧ Ext w0 w) (ps.length) ?_ ?_
    · skip
      have hq1 : qs.length ≤ 1 := by have := congrArg List.length hqs; rw [List.length_map] at this; rw [this]; unfold recs0; split <;> simp
      exact ⟨0, va, c, qs, by omega, rfl, by simpa using hqs, by omega, H.sub ⟨rfl, rfl, rfl, rfl, trivial⟩, RL, E⟩
    · skip
      clear H RL RB E
      intro n a w hI
      obtain ⟨i, va, c, qs, hi, rfl, hqs, hql, H, RL, E⟩ := hI
      rcases (show i < ps.length ∨ i = ps.length by omega) with hlt | rfl
      · skip
        obtain ⟨⟨y, uy⟩, hp⟩ : ∃ p, ps[i]? = some p := ⟨_, List.getElem?_eq_getElem hlt⟩
        have RS := R0.lst.ext E
        obtain ⟨gs, os, hsa, hcl, hok, hzp, _⟩ := RS.at_ i (y, uy) hp
        subst hsa
        have hld := ld_elem RS i (y, uy) hp
        simp only at hok hzp hld
        obtain ⟨ua, uc, rfl, _⟩ := (Sr.of hzp.1).shape
        refine wp_seq_k (fun K10 hK10 => ?_)
        refine e_region (fun R hR => ?_)
        refine e_op H rfl rfl (by decide) (x_binI H rfl rfl rfl (b_lss (b := true) (dec_t (by omega)))) ?_
        clear H a; intro a H
        refine e_nil (hR.out _ _ ?_)
        clear hR R
        refine hK10 _ _ ?_
        clear hK10 K10
        refine wp_seq_k (fun K11 hK11 => ?_)
        refine c_true H rfl ?_
        refine wp_skip ?_
        refine hK11 _ _ ?_
        clear hK11 K11
        refine wp_seq_k (fun K12 hK12 => ?_)
        refine wp_block ?_
        refine wp_seq_k (fun K13 hK13 => ?_)
        refine e_region (fun R hR => ?_)
        refine e_op H rfl rfl (by decide) (x_indexAddr H rfl rfl rfl (i_slN (m := i) under84 size95 rfl hlt)) ?_
        clear H a; intro a H
        refine e_op H rfl rfl (by decide) (x_load H rfl rfl hld) ?_
        clear H a; intro a H
        refine e_op H rfl rfl (by decide) (x_alloc H rfl (al_new (z95 _))) ?_
        clear H a; intro a H
        have RL0 := RL
        have D0 := Blk.new w 95 zero95
        have E1 := E.al (.cells zero95.toArray 95)
        replace hzp := hzp.al (.cells zero95.toArray 95)
        replace RL := RL.ext ((Ext.refl w).al (.cells zero95.toArray 95))
        obtain ⟨g2, hg2⟩ : ∃ g, g = w.heap.size := ⟨_, rfl⟩
        have hgl : w0.heap.size ≤ g2 := by have := E.sz; omega
        have hrne : ∀ k, (Value.slice va qs.length c).ownBlock = some k → k ∉ [g2] := fun k hk => by have := (RL0.row.blk k hk).2.1; simp; omega
        rw [← hg2] at H D0
        generalize w.alloc (.cells zero95.toArray 95) = wa at *
        clear RL0
        refine e_st H rfl rfl (x_store H rfl rfl rfl (st_row D0 (by rw [info95]; simp [Rcd.cells_len _ _ hok.words]) (by simp [Rcd.cells_len _ _ hok.words, zero95]) (by rw [Array.all_eq_true']; intro z hz; exact cells_one y ua y.ev.args.length uc z (by simpa using hz)))) ?_
        have D1 := D0.row (y.cells (.slice ua y.ev.args.length uc))
        have E2 := E1.row_ hgl (y.cells (.slice ua y.ev.args.length uc)).toArray
        have F2 : Frm [g2] wa (wa.setRow g2 (y.cells (.slice ua y.ev.args.length uc)).toArray) := (Frm.refl [g2] wa).grown (grown_setRow wa g2 _) (fun k e => by cases e; exact .inl (by simp))
        have hzp2 := hzp.row D0 (by decide) (y.cells (.slice ua y.ev.args.length uc)).toArray
        replace RL := RL.frm F2 hrne (fun b hb cur e => by simp only [List.mem_singleton] at hb; subst hb; unfold Blk at D0; rw [D0] at e; simp at e)
        clear F2 hzp
        generalize wa.setRow g2 (y.cells (.slice ua y.ev.args.length uc)).toArray = wb at *
        refine e_nil (hR.out _ _ ?_)
        clear hR R
        refine hK13 _ _ ?_
        clear hK13 K13
        refine e_region (fun R hR => ?_)
        refine e_op H rfl rfl (by decide) (x_move H rfl rfl) ?_
        clear H a; intro a H
        refine e_op H rfl rfl (by decide) (x_load H rfl rfl (ld_rec D1 hok.words)) ?_
        clear H a; intro a H
        refine e_callq H rfl rfl (by decide) rfl rfl (Try.call117 _) (clone_any y (.slice ua y.ev.args.length uc) wb hok hzp2.zl hzp2.2) ?_
        clear H a
        rintro e we ⟨ax, cx, rfl, Zx, Ee⟩
        refine ⟨_, rfl, fun a H => ?_⟩
        replace Zx := Zx.mono E2.sz
        replace RL := RL.ext Ee
        have E3 := E2.tr Ee
        refine e_op H rfl rfl (by decide) (x_buildSlice H rfl rfl (bs84 y ax y.ev.args.length cx hok.words _)) ?_
        clear H a; intro a H
        have Db := Blk.new we 95 (y.cells (.slice ax y.ev.args.length cx))
        have E4 := E3.al (.cells (y.cells (.slice ax y.ev.args.length cx)).toArray 95)
        replace RL := RL.ext ((Ext.refl we).al (.cells (y.cells (.slice ax y.ev.args.length cx)).toArray 95))
        replace Zx := Zx.al (.cells (y.cells (.slice ax y.ev.args.length cx)).toArray 95)
        obtain ⟨gb, hgb⟩ : ∃ g, g = we.heap.size := ⟨_, rfl⟩
        rw [← hgb] at H Db
        generalize we.alloc (.cells (y.cells (.slice ax y.ev.args.length cx)).toArray 95) = wf at *
        obtain ⟨gr, og, cr, wg, hrr, RLg, Gg, hgr⟩ := Rl.app el84 (by decide) RL 84 gb 1 y (.slice ax y.ev.args.length cx) hok Zx Db (cells_one y ax _ cx) (by omega) E4.sz
        have E5 : Ext w0 wg := E4.grown Gg (fun k hk => (RL.row.blk k hk).1)
        refine e_op H rfl rfl (by decide) (x_builtin H rfl rfl (fun cs => bi_app hrr)) ?_
        clear H a; intro a H
        refine e_op H rfl rfl (by decide) (x_assign H rfl rfl) ?_
        clear H a; intro a H
        refine e_nil (hR.out _ _ ?_)
        clear hR R
        refine hK12 _ _ ?_
        clear hK12 K12
        refine e_region (fun R hR => ?_)
        refine e_op H rfl rfl (by decide) (x_binI H rfl rfl rfl (b_add (z := ((i + 1 : Nat) : Int)) (by rw [IntKind.wrap_i64]; omega))) ?_
        clear H a; intro a H
        refine e_op H rfl rfl (by decide) (x_move H rfl rfl) ?_
        clear H a; intro a H
        refine e_nil (hR.out _ _ ?_)
        clear hR R
        have hpl : r.list[i]? = some y := by rw [← R0.eq, List.getElem?_map, hp]; rfl
        refine ⟨ps.length - (i + 1), by omega, i + 1, some ⟨gr, og, none⟩, cr, qs ++ [(y, .slice ax y.ev.args.length cx)], by omega, rfl, ?_, by simp; omega, ?_, ?_, E5⟩
        · rw [List.map_append, hqs, List.take_add_one, hpl]; simp
        · rw [List.length_append]; exact H.sub ⟨rfl, rfl, rfl, rfl, trivial⟩
        · rw [List.length_append]; exact RLg
      · skip
        skip
        refine wp_seq_k (fun K14 hK14 => ?_)
        refine e_region (fun R hR => ?_)
        refine e_op H rfl rfl (by decide) (x_binI H rfl rfl rfl (b_lss (b := false) (dec_f (by omega)))) ?_
        clear H a; intro a H
        refine e_nil (hR.out _ _ ?_)
        clear hR R
        refine hK14 _ _ ?_
        clear hK14 K14
        refine wp_seq_k (fun K15 hK15 => ?_)
        refine c_false H rfl ?_
        refine wp_exit ?_
        refine t_exit ?_
        refine t_exit ?_
        refine b_hit ?_
        clear hK15 K15
        refine hK8 _ _ ?_
        clear hK8 K8
        refine wp_seq_k (fun K16 hK16 => ?_)
        refine e_region (fun R hR => ?_)
        refine e_op H rfl rfl (by decide) (x_move H rfl rfl) ?_
        clear H a; intro a H
        refine e_op H rfl rfl (by decide) (x_assign H rfl rfl) ?_
        clear H a; intro a H
        refine e_nil (hR.out _ _ ?_)
        clear hR R
        refine hK16 _ _ ?_
        clear hK16 K16
        refine wp_ret ?_
        refine ret1 H rfl rfl ⟨_, qs, rfl, RL, ?_, E⟩
        rw [recs_eq, hqs, ← R0.eq, List.take_of_length_le (by simp)]
  · skip
    by_cases hlo : 0 < r.lost
    · skip
      rw [decide_eq_true hlo] at H
      refine c_true H rfl ?_
      obtain ⟨wd, hwd⟩ : ∃ wx, wx = w2.drew := ⟨_, rfl⟩
      have Ewd : Ext w2 wd := by rw [hwd]; exact (Ext.refl _).dr
      have RB0 := RB.ext Ewd
      have ES := Ext.refl wd
      refine g_start (fun w' => Ext wd w') (by kernel_rfl) (fun R hR => ?_)
      rw [← hwd]
      refine g_take 0 H rfl (wanted_none rfl) rfl (by decide) (by kernel_rfl) (by kernel_rfl) (by kernel_rfl) ES (fun w' hSw => (x_move H rfl rfl)) ?_
      clear H a; intro a H
      refine g_take 1 H rfl (wanted_none rfl) rfl (by decide) (by kernel_rfl) (by kernel_rfl) (by kernel_rfl) ES (fun w' hSw => (x_move H rfl rfl)) ?_
      clear H a; intro a H
      refine g_take 2 H rfl (wanted_none rfl) rfl (by decide) (by kernel_rfl) (by kernel_rfl) (by kernel_rfl) ES (fun w' hSw => (x_nilCheck H rfl rfl)) ?_
      clear H a; intro a H
      refine g_take 3 H rfl (wanted_none rfl) rfl (by decide) (by kernel_rfl) (by kernel_rfl) (by kernel_rfl) ES (fun w' hSw => (x_fieldAddr H rfl rfl (fa191_4 _ _))) ?_
      clear H a; intro a H
      refine g_take 4 H rfl (wanted_none rfl) rfl (by decide) (by kernel_rfl) (by kernel_rfl) (by kernel_rfl) ES (fun w' hSw => (x_load H rfl rfl (l_cell Try.isAgg3 ((RB0.ext hSw).at_ (i := 4) rfl)))) ?_
      clear H a; intro a H
      refine g_take 5 H rfl (wanted_none rfl) rfl (by decide) (by kernel_rfl) (by kernel_rfl) (by kernel_rfl) ES (fun w' hSw => (x_move H rfl rfl)) ?_
      clear H a; intro a H
      refine g_take 6 H rfl (wanted_none rfl) rfl (by decide) (by kernel_rfl) (by kernel_rfl) (by kernel_rfl) ES (fun w' hSw => (x_nilCheck H rfl rfl)) ?_
      clear H a; intro a H
      refine g_take 7 H rfl (wanted_none rfl) rfl (by decide) (by kernel_rfl) (by kernel_rfl) (by kernel_rfl) ES (fun w' hSw => (x_fieldAddr H rfl rfl (fa191_5 _ _))) ?_
      clear H a; intro a H
      refine g_take 8 H rfl (wanted_none rfl) rfl (by decide) (by kernel_rfl) (by kernel_rfl) (by kernel_rfl) ES (fun w' hSw => (x_load H rfl rfl (l_cell Try.isAgg56 ((RB0.ext hSw).at_ (i := 5) rfl)))) ?_
      clear H a; intro a H
      refine g_take 9 H rfl (wanted_none rfl) rfl (by decide) (by kernel_rfl) (by kernel_rfl) (by kernel_rfl) ES (fun w' hSw => (x_move H rfl rfl)) ?_
      clear H a; intro a H
      refine g_take 10 H rfl (wanted_none rfl) rfl (by decide) (by kernel_rfl) (by kernel_rfl) (by kernel_rfl) ES (fun w' hSw => (x_build H rfl rfl (bldmark _ _ _ _))) ?_
      clear H a; intro a H
      refine g_op 11 H rfl (by kernel_rfl) (wanted_none rfl) rfl (by decide) (x_buildSlice H rfl rfl (bs84 (markR r) none 0 0 (by simp [markR, zeros16]) _)) (ES.al _) ?_
      clear H a; intro a H
      have Db := Blk.new wd 95 ((markR r).cells (.slice none 0 0))
      replace ES := ES.al (.cells ((markR r).cells (.slice none 0 0)).toArray 95)
      obtain ⟨gb, hgb⟩ : ∃ g, g = wd.heap.size := ⟨_, rfl⟩
      rw [← hgb] at H Db
      generalize wd.alloc (.cells ((markR r).cells (.slice none 0 0)).toArray 95) = wf at *
      have hsz := ((E2.tr Ewd).tr ES).sz
      obtain ⟨gr, og, cr, wg, hrr, RLg, Gg, hgr⟩ := Rl.app el84 (by decide) (Rl.nil wf w0.heap.size) 84 gb 1 (markR r) (.slice none 0 0) (mark_ok R0) (Zw.nil _ _) Db (cells_one (markR r) none 0 0) (by omega) hsz
      rw [Nat.zero_add] at hrr RLg
      have ES2 : Ext wd wg := ES.grown Gg (fun k hk => by cases hk)
      refine g_op 12 H rfl (by kernel_rfl) (wanted_none rfl) rfl (by decide) (x_builtin H rfl rfl (fun cs => bi_app hrr)) (ES2) ?_
      clear H a; intro a H
      refine g_take 13 H rfl (wanted_none rfl) rfl (by decide) (by kernel_rfl) (by kernel_rfl) (by kernel_rfl) ES2 (fun w' hSw => (x_assign H rfl rfl)) ?_
      clear H a; intro a H
      refine g_done (by kernel_rfl) (hR.out _ _ ?_)
      clear hR R
      exact ⟨rfl, some ⟨gr, og, none⟩, cr, [(markR r, Value.slice none 0 0)], H.sub ⟨rfl, rfl, trivial⟩, RLg, by unfold recs0; rw [if_pos hlo]; rfl, (E2.tr Ewd).tr ES2⟩
    · skip
      rw [decide_eq_false hlo] at H
      refine c_false H rfl ?_
      refine wp_skip ?_
      exact ⟨rfl, none, 0, [], H.sub ⟨rfl, rfl, trivial⟩, Rl.nil _ _, by unfold recs0; rw [if_neg hlo]; rfl, E2⟩
theorem records_nil (w0 : World) : Calls Try.prog 69 #[.pointer none] w0 fun e w' => e = .returned (.slice none 0 0) ∧ w' = w0 := by
  refine calls_has (args := [.pointer none]) Try.func69 rfl Try.ntmps69 (Nat.le_of_ble_eq_true rfl) (fun a H => ?_)
  simp only [argl, Nat.reduceAdd] at H
  refine wp_seq_k (fun K1 hK1 => ?_)
  refine e_region (fun R hR => ?_)
  refine e_op H rfl rfl (by decide) (x_assign H rfl rfl) ?_
  clear H a; intro a H
  refine e_nil (hR.out _ _ ?_)
  clear hR R
  refine hK1 _ _ ?_
  clear hK1 K1
  refine wp_seq_k (fun K2 hK2 => ?_)
  refine wp_seq_k (fun K3 hK3 => ?_)
  refine e_region (fun R hR => ?_)
  refine e_op H rfl rfl (by decide) (x_move H rfl rfl) ?_
  clear H a; intro a H
  refine e_op H rfl rfl (by decide) (x_bin H rfl rfl rfl (by rw [eqGuard_at_pointer]; rfl) (b_pnil (c := true) under81 rfl)) ?_
  clear H a; intro a H
  refine e_nil (hR.out _ _ ?_)
  clear hR R
  refine hK3 _ _ ?_
  clear hK3 K3
  refine c_true H rfl ?_
  refine wp_seq_k (fun K4 hK4 => ?_)
  refine e_region (fun R hR => ?_)
  refine e_op H rfl rfl (by decide) (x_assign H rfl rfl) ?_
  clear H a; intro a H
  refine e_nil (hR.out _ _ ?_)
  clear hR R
  refine hK4 _ _ ?_
  clear hK4 K4
  refine wp_ret ?_
  refine t_ret ?_
  exact ret1 H rfl rfl ⟨rfl, rfl⟩
end Go.Proofs.Ytknllmcpogoeoaa
