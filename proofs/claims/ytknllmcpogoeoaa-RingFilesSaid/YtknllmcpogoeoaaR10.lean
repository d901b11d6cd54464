/- A record's copy; how many were lost: walked. -/
import Derived.Test.YtknllmcpogoeoaaR9
import Derived.Test.YtknllmcpogoeoaaEg
namespace Go.Proofs.Ytknllmcpogoeoaa
open Go.RowKit
set_option linter.unusedVariables false
set_option linter.unusedSimpArgs false
set_option maxRecDepth 100000
theorem fa93x (b : Nat) (w : World) : (Instr.fieldAt 93 (.pointer (some ⟨b, 19, none⟩)) 8).run Try.prog w = .ok (.pointer (some ⟨b, 27, none⟩)) w := by kernel_rfl
theorem fa95o_1 (b o : Nat) (w : World) : (Instr.fieldAt 95 (.pointer (some ⟨b, o, none⟩)) 1).run Try.prog w = .ok (.pointer (some ⟨b, o + 1, none⟩)) w := by kernel_rfl
theorem fa95o_3 (b o : Nat) (w : World) : (Instr.fieldAt 95 (.pointer (some ⟨b, o, none⟩)) 3).run Try.prog w = .ok (.pointer (some ⟨b, o + 18, none⟩)) w := by kernel_rfl
theorem info95 : (Try.prog.info? 95).map (·.size) = some 29 := by kernel_rfl
/-- a copy of int64s onto nothing -/
theorem run_appZ (w : World) (ua : Option Addr) (un uc : Nat) (zs : List Int) (hz : Zs w .i64 ua un zs) (hc : ua = none → uc = 0) (hb : un ≤ 1048576) :
    ∃ a c w', (Builtin.append_ #[91, 91] 91 #[.slice none 0 0, .slice ua un uc]).run Try.prog w = .ok (.slice a un c) w' ∧ Zw w' w.heap.size (.slice a un c) zs ∧ Ext w w' := by
  obtain ⟨i0, hi, hz0, hz1, hz2⟩ := info_parts el91.info
  have hl := hz.leng
  by_cases h0 : un = 0
  · subst h0
    have hz' : zs = [] := List.eq_nil_of_length_eq_zero hl
    subst hz'
    refine ⟨none, 0, w, ?_, Zw.nil _ _, Ext.refl _⟩
    cases ua <;> simp [Builtin.append_, run_underlying under91, sizeOf, typeInfo, hi, Builtin.lenOf, Builtin.firstCells, loadCells, loadCellsFrom]
  · obtain ⟨b, off, rfl, _⟩ := hz.cell 0 (by omega)
    have hnews : ∀ j u, (i64s zs)[j]? = some u → w.cell? ((⟨b, off, none⟩ : Addr).add j) = some u := by
      intro j u hu
      have hj : j < zs.length := by
        have := (List.getElem?_eq_some_iff.1 hu).1
        simpa [i64s] using this
      obtain ⟨b', off', e, hc'⟩ := hz.cell j (by omega)
      simp only [Option.some.injEq, Addr.mk.injEq] at e
      obtain ⟨rfl, rfl, _⟩ := e
      rw [Addr.add_lit, hc', ← hu]
      simp [i64s, hj]
    obtain ⟨v', w', hr, h2, h3, h4⟩ := run_append_own (P := Try.prog) w w.heap.size 91 91 2 i0 (.int .i64 0) 1 8 el91.und hi hz0 hz1 hz2 el91.zs el91.pos (.slice none 0 0) 0 [] (World.ownsRow_nil _ _ _ _) ⟨b, off, none⟩ un uc (i64s zs) (by rw [i64s_len, hl, Nat.mul_one]) hnews (by intro u hu; obtain ⟨z, _, rfl⟩ := List.mem_map.1 hu; rfl) (by unfold maxLen; omega) (by omega) (Nat.le_refl _)
    rw [Nat.zero_add, List.nil_append] at h2
    obtain ⟨a', c', rfl, _⟩ := (Sr.of h2).shape
    refine ⟨a', c', w', hr, ⟨by rw [hl]; exact h2, by omega⟩, (Ext.refl w).grown h3 (fun k hk => by cases hk)⟩
theorem cells_set (x : Rcd) (u v : Value) (h16 : x.words.length = 16) : (x.cells u).set 27 v = x.cells v := by
  unfold Rcd.cells Evt.cells
  rw [List.set_append_left _ _ (by simp [h16]), List.set_append_right _ _ (by simp [h16])]
  simp [h16]
section
variable {w : World} {B g : Nat} {u : Value} {zs : List Int} {t : TypeId} {cs : List Value}
theorem Zw.set (h : Zw w B u zs) (T : Blk w g t cs) (ht : t ≠ 2) (o : Nat) (v : Value) : Zw (w.setCell ⟨g, o, none⟩ v) B u zs :=
  h.frm (s := [g]) ((Frm.refl [g] w).st g o v (.inl (by simp))) (fun b hb cur e => by
    simp only [List.mem_singleton] at hb
    subst hb
    unfold Blk at T
    rw [T] at e
    simp at e
    exact ht e.2)
theorem Zw.row (h : Zw w B u zs) (T : Blk w g t cs) (ht : t ≠ 2) (ds : Array Value) : Zw (w.setRow g ds) B u zs :=
  h.frm (s := [g]) ((Frm.refl [g] w).grown (grown_setRow w g ds) (fun k e => by cases e; exact .inl (by simp))) (fun b hb cur e => by
    simp only [List.mem_singleton] at hb
    subst hb
    unfold Blk at T
    rw [T] at e
    simp at e
    exact ht e.2)
theorem Zw.al (h : Zw w B u zs) (o : Obj) : Zw (w.alloc o) B u zs := h.ext ((Ext.refl w).al o)
end
theorem clone_any (x : Rcd) (u : Value) (w0 : World) (hx : x.ok) (hu : Zl w0 u x.ev.args) (hn : x.ev.args.length ≤ 1048576) : Calls Try.prog 117 #[.agg (x.cells u).toArray] w0 fun e w' =>
    ∃ a c, e = .returned (.agg (x.cells (.slice a x.ev.args.length c)).toArray) ∧ Zw w' w0.heap.size (.slice a x.ev.args.length c) x.ev.args ∧ Ext w0 w' := by
  obtain ⟨ua, un, uc, rfl, hzs, huc, hcz, hub⟩ := hu
  replace hn : un ≤ 1048576 := by have := hzs.leng; omega
  refine calls_has (args := [.agg (x.cells (.slice ua un uc)).toArray]) Try.func117 rfl Try.ntmps117 (Nat.le_of_ble_eq_true rfl) (fun a H => ?_)
  simp only [argl, Nat.reduceAdd] at H
  refine wp_seq_k (fun K1 hK1 => ?_)
  refine e_region (fun R hR => ?_)
  refine e_op H rfl rfl (by decide) (x_box H rfl rfl bx_new) ?_
  clear H a; intro a H
  have T1 := Blk.new w0 95 (x.cells (.slice ua un uc))
  have E1 := (Ext.refl w0).al (.cells (x.cells (.slice ua un uc)).toArray 95)
  obtain ⟨g1, hg1⟩ : ∃ g, g = w0.heap.size := ⟨_, rfl⟩
  rw [← hg1] at H T1
  generalize w0.alloc (.cells (x.cells (.slice ua un uc)).toArray 95) = w1 at *
  have hlt1 : g1 < w1.heap.size := T1.lt
  have hgl1 : w0.heap.size ≤ g1 := by omega
  refine e_op H rfl rfl (by decide) (x_alloc H rfl (al_new (z95 _))) ?_
  clear H a; intro a H
  have D1 := Blk.new w1 95 zero95
  replace T1 := T1.alloc (.cells zero95.toArray 95)
  have E2 := E1.al (.cells zero95.toArray 95)
  obtain ⟨g2, hg2⟩ : ∃ g, g = w1.heap.size := ⟨_, rfl⟩
  have hg12 : g2 ≠ g1 := by have := T1.lt; have := E1.sz; intro e; rw [e] at hg2; have := hlt1; omega
  rw [← hg2] at H D1
  have hgl : w0.heap.size ≤ g2 := by have := E1.sz; omega
  generalize w1.alloc (.cells zero95.toArray 95) = w2 at *
  refine e_nil (hR.out _ _ ?_)
  clear hR R
  refine hK1 _ _ ?_
  clear hK1 K1
  refine wp_seq_k (fun K2 hK2 => ?_)
  refine e_region (fun R hR => ?_)
  refine e_op H rfl rfl (by decide) (x_fieldAddr H rfl rfl (fa95_4 _ _)) ?_
  clear H a; intro a H
  refine e_op H rfl rfl (by decide) (x_fieldAddr H rfl rfl (fa93x _ _)) ?_
  clear H a; intro a H
  refine e_op H rfl rfl (by decide) (x_load H rfl rfl (l_cell Try.isAgg91 (T1.at_ (rc_ev hx.words 8 _ rfl)))) ?_
  clear H a; intro a H
  obtain ⟨a3, c3, w3, hr3, Z3, F3⟩ := run_appZ w2 ua un uc x.ev.args (hzs.ext E2) hcz hn
  have E3 := E2.tr F3
  have T3 := T1.ext F3
  have D3 := D1.ext F3
  refine e_op H rfl rfl (by decide) (x_builtin H rfl rfl (fun cs => bi_app hr3)) ?_
  clear H a; intro a H
  refine e_op H rfl rfl (by decide) (x_fieldAddr H rfl rfl (fa95_4 _ _)) ?_
  clear H a; intro a H
  refine e_op H rfl rfl (by decide) (x_fieldAddr H rfl rfl (fa93x _ _)) ?_
  clear H a; intro a H
  refine e_st H rfl rfl (x_store H rfl rfl rfl (st_cell rfl rfl Try.sizeOf91 (T3.frozen _) (T3.isSome 27 (by rw [Rcd.cells_len _ _ hx.words]; omega)))) ?_
  have T4 := T3.set_ 27 (.slice a3 un c3)
  rw [cells_set _ _ _ hx.words] at T4
  have D4 := D3.far hg12 (o := 27) (.slice a3 un c3)
  have Z4 := Z3.set T3 (by decide) 27 (.slice a3 un c3)
  have E4 := E3.st hgl1 27 (.slice a3 un c3)
  generalize w3.setCell ⟨g1, 27, none⟩ (.slice a3 un c3) = w4 at *
  refine e_nil (hR.out _ _ ?_)
  clear hR R
  refine hK2 _ _ ?_
  clear hK2 K2
  refine wp_seq_k (fun K3 hK3 => ?_)
  refine e_region (fun R hR => ?_)
  refine e_op H rfl rfl (by decide) (x_load H rfl rfl (ld_rec T4 hx.words)) ?_
  clear H a; intro a H
  refine e_st H rfl rfl (x_store H rfl rfl rfl (st_row D4 (by rw [info95]; simp [Rcd.cells_len _ _ hx.words]) (by simp [Rcd.cells_len _ _ hx.words, zero95]) (by rw [Array.all_eq_true']; intro y hy; exact cells_one x a3 un c3 y (by simpa using hy)))) ?_
  refine e_nil (hR.out _ _ ?_)
  clear hR R
  refine hK3 _ _ ?_
  clear hK3 K3
  refine wp_ret ?_
  have hl := hzs.leng
  exact retc H rfl rfl (setRow_heap _ _ _ _ 95 (0, 0) D4) Try.underlying95 rfl (by rw [info95]; simp [Rcd.cells_len _ _ hx.words]) ⟨a3, c3, by rw [hl], by rw [hl]; exact (Z4.row D4 (by decide) _).mono (E2.sz), E4.row_ hgl _⟩
theorem lost_any (B g : Nat) (v : Value) (ps : List (Rcd × Value)) (r : Rg) (w0 : World) (R0 : Rn w0 B g v ps r) : Calls Try.prog 88 #[.pointer (some ⟨g, 0, none⟩)] w0 fun e w' => e = .returned (.int .u64 ((r.lost : Nat) : Int)) ∧ Ext w0 w' := by
  obtain ⟨va, vc, rfl, hvc, hvn⟩ := R0.lst.row.shape
  have D0 : Blk w0.drew g 191 _ := R0.blk
  have n1 := R0.n1
  have n2 := R0.n2
  cases hps : ps with
  | nil =>
    have hl : r.list = [] := by rw [← R0.eq, hps]; rfl
    subst hps
    have hsub : IntKind.u64.wrap ((r.next : Int) - (r.first : Int)) = ((r.lost : Nat) : Int) := by
      unfold Rg.lost
      rw [hl, IntKind.wrap_u64]
      simp only
      omega
    simp only [List.length_nil] at *
    refine calls_has (args := [.pointer (some ⟨g, 0, none⟩)]) Try.func88 rfl Try.ntmps88 (Nat.le_of_ble_eq_true rfl) (fun a H => ?_)
    simp only [argl, Nat.reduceAdd] at H
    refine wp_seq_k (fun K1 hK1 => ?_)
    refine e_region (fun R hR => ?_)
    refine e_op H rfl rfl (by decide) (x_assign H rfl rfl) ?_
    clear H a; intro a H
    refine e_nil (hR.out _ _ ?_)
    clear hR R
    refine hK1 _ _ ?_
    clear hK1 K1
    refine wp_seq_k (fun K2 hK2 => ?_)
    refine wp_seq_k (fun K3 hK3 => ?_)
    refine e_region (fun R hR => ?_)
    refine e_op H rfl rfl (by decide) (x_move H rfl rfl) ?_
    clear H a; intro a H
    refine e_op H rfl rfl (by decide) (x_bin H rfl rfl rfl (by rw [eqGuard_at_pointer]; rfl) (b_pnil (c := false) under81 rfl)) ?_
    clear H a; intro a H
    refine e_nil (hR.out _ _ ?_)
    clear hR R
    refine hK3 _ _ ?_
    clear hK3 K3
    refine c_false H rfl ?_
    refine wp_skip ?_
    refine hK2 _ _ ?_
    clear hK2 K2
    refine wp_seq_k (fun K4 hK4 => ?_)
    refine wp_seq_k (fun K5 hK5 => ?_)
    refine e_region (fun R hR => ?_)
    refine e_op H rfl rfl (by decide) (x_move H rfl rfl) ?_
    clear H a; intro a H
    refine e_op H rfl rfl (by decide) (x_nilCheck H rfl rfl) ?_
    clear H a; intro a H
    refine e_op H rfl rfl (by decide) (x_fieldAddr H rfl rfl (fa191_2 _ _)) ?_
    clear H a; intro a H
    refine e_op H rfl rfl (by decide) (x_load H rfl rfl (l_cell Try.isAgg84 (R0.blk.at_ (i := 2) rfl))) ?_
    clear H a; intro a H
    refine e_op H rfl rfl (by decide) (x_builtin H rfl rfl (fun cs => len_sl under84)) ?_
    clear H a; intro a H
    refine e_op H rfl rfl (by decide) (x_binI H rfl rfl rfl (b_eql (b := true) (beq_t (by omega)))) ?_
    clear H a; intro a H
    refine e_nil (hR.out _ _ ?_)
    clear hR R
    refine hK5 _ _ ?_
    clear hK5 K5
    refine c_true H rfl ?_
    refine wp_seq_k (fun K6 hK6 => ?_)
    refine e_quiet (by kernel_rfl) (by kernel_rfl) (fun R hR => ?_)
    refine s_op H rfl rfl (by decide) (x_move H rfl rfl) ?_
    clear H a; intro a H
    refine s_op H rfl rfl (by decide) (x_nilCheck H rfl rfl) ?_
    clear H a; intro a H
    refine s_op H rfl rfl (by decide) (x_fieldAddr H rfl rfl (fa191_6 _ _)) ?_
    clear H a; intro a H
    refine s_op H rfl rfl (by decide) (x_load H rfl rfl (l_cell Try.isAgg56 (D0.at_ (i := 6) rfl))) ?_
    clear H a; intro a H
    refine s_op H rfl rfl (by decide) (x_move H rfl rfl) ?_
    clear H a; intro a H
    refine s_op H rfl rfl (by decide) (x_nilCheck H rfl rfl) ?_
    clear H a; intro a H
    refine s_op H rfl rfl (by decide) (x_fieldAddr H rfl rfl (fa191_5 _ _)) ?_
    clear H a; intro a H
    refine s_op H rfl rfl (by decide) (x_load H rfl rfl (l_cell Try.isAgg56 (D0.at_ (i := 5) rfl))) ?_
    clear H a; intro a H
    refine s_op H rfl rfl (by decide) (x_binI H rfl rfl rfl (b_sub (z := ((r.lost : Nat) : Int)) (hsub))) ?_
    clear H a; intro a H
    refine s_op H rfl rfl (by decide) (x_assign H rfl rfl) ?_
    clear H a; intro a H
    refine wpStill_nil (hR.out _ _ ?_)
    clear hR R
    refine hK6 _ _ ?_
    clear hK6 K6
    refine wp_ret ?_
    refine t_ret ?_
    exact ret1 H rfl rfl ⟨rfl, (Ext.refl _).dr⟩
  | cons p rest =>
    obtain ⟨gb, off, hva, hcell, hok, hzw, hgb⟩ := R0.lst.at_ 0 p (by rw [hps]; rfl)
    subst hva
    have hl : r.list = p.1 :: rest.map (·.1) := by rw [← R0.eq, hps]; rfl
    have hpl : ps.length = rest.length + 1 := by rw [hps]; rfl
    have hix := hok.idx
    have hseq : w0.drew.cell? ⟨gb, off + 0 * 29 + 1, none⟩ = some (.int .u64 (p.1.idx : Int)) := hcell 1 _ rfl
    have hsub : IntKind.u64.wrap ((p.1.idx : Int) - (r.first : Int)) = ((r.lost : Nat) : Int) := by
      unfold Rg.lost
      rw [hl, IntKind.wrap_u64]
      simp only
      omega
    skip
    refine calls_has (args := [.pointer (some ⟨g, 0, none⟩)]) Try.func88 rfl Try.ntmps88 (Nat.le_of_ble_eq_true rfl) (fun a H => ?_)
    simp only [argl, Nat.reduceAdd] at H
    refine wp_seq_k (fun K1 hK1 => ?_)
    refine e_region (fun R hR => ?_)
    refine e_op H rfl rfl (by decide) (x_assign H rfl rfl) ?_
    clear H a; intro a H
    refine e_nil (hR.out _ _ ?_)
    clear hR R
    refine hK1 _ _ ?_
    clear hK1 K1
    refine wp_seq_k (fun K2 hK2 => ?_)
    refine wp_seq_k (fun K3 hK3 => ?_)
    refine e_region (fun R hR => ?_)
    refine e_op H rfl rfl (by decide) (x_move H rfl rfl) ?_
    clear H a; intro a H
    refine e_op H rfl rfl (by decide) (x_bin H rfl rfl rfl (by rw [eqGuard_at_pointer]; rfl) (b_pnil (c := false) under81 rfl)) ?_
    clear H a; intro a H
    refine e_nil (hR.out _ _ ?_)
    clear hR R
    refine hK3 _ _ ?_
    clear hK3 K3
    refine c_false H rfl ?_
    refine wp_skip ?_
    refine hK2 _ _ ?_
    clear hK2 K2
    refine wp_seq_k (fun K4 hK4 => ?_)
    refine wp_seq_k (fun K5 hK5 => ?_)
    refine e_region (fun R hR => ?_)
    refine e_op H rfl rfl (by decide) (x_move H rfl rfl) ?_
    clear H a; intro a H
    refine e_op H rfl rfl (by decide) (x_nilCheck H rfl rfl) ?_
    clear H a; intro a H
    refine e_op H rfl rfl (by decide) (x_fieldAddr H rfl rfl (fa191_2 _ _)) ?_
    clear H a; intro a H
    refine e_op H rfl rfl (by decide) (x_load H rfl rfl (l_cell Try.isAgg84 (R0.blk.at_ (i := 2) rfl))) ?_
    clear H a; intro a H
    refine e_op H rfl rfl (by decide) (x_builtin H rfl rfl (fun cs => len_sl under84)) ?_
    clear H a; intro a H
    refine e_op H rfl rfl (by decide) (x_binI H rfl rfl rfl (b_eql (b := false) (beq_f (by omega)))) ?_
    clear H a; intro a H
    refine e_nil (hR.out _ _ ?_)
    clear hR R
    refine hK5 _ _ ?_
    clear hK5 K5
    refine c_false H rfl ?_
    refine wp_skip ?_
    refine hK4 _ _ ?_
    clear hK4 K4
    refine wp_seq_k (fun K6 hK6 => ?_)
    refine e_quiet (by kernel_rfl) (by kernel_rfl) (fun R hR => ?_)
    refine s_op H rfl rfl (by decide) (x_move H rfl rfl) ?_
    clear H a; intro a H
    refine s_op H rfl rfl (by decide) (x_nilCheck H rfl rfl) ?_
    clear H a; intro a H
    refine s_op H rfl rfl (by decide) (x_fieldAddr H rfl rfl (fa191_2 _ _)) ?_
    clear H a; intro a H
    refine s_op H rfl rfl (by decide) (x_load H rfl rfl (l_cell Try.isAgg84 (D0.at_ (i := 2) rfl))) ?_
    clear H a; intro a H
    refine s_op H rfl rfl (by decide) (x_indexAddr H rfl rfl rfl (i_slN (m := 0) under84 size95 rfl (by omega))) ?_
    clear H a; intro a H
    refine s_op H rfl rfl (by decide) (x_fieldAddr H rfl rfl (fa95o_1 _ _ _)) ?_
    clear H a; intro a H
    refine s_op H rfl rfl (by decide) (x_load H rfl rfl (l_cell Try.isAgg56 (hseq))) ?_
    clear H a; intro a H
    refine s_op H rfl rfl (by decide) (x_move H rfl rfl) ?_
    clear H a; intro a H
    refine s_op H rfl rfl (by decide) (x_nilCheck H rfl rfl) ?_
    clear H a; intro a H
    refine s_op H rfl rfl (by decide) (x_fieldAddr H rfl rfl (fa191_5 _ _)) ?_
    clear H a; intro a H
    refine s_op H rfl rfl (by decide) (x_load H rfl rfl (l_cell Try.isAgg56 (D0.at_ (i := 5) rfl))) ?_
    clear H a; intro a H
    refine s_op H rfl rfl (by decide) (x_binI H rfl rfl rfl (b_sub (z := ((r.lost : Nat) : Int)) (hsub))) ?_
    clear H a; intro a H
    refine s_op H rfl rfl (by decide) (x_assign H rfl rfl) ?_
    clear H a; intro a H
    refine wpStill_nil (hR.out _ _ ?_)
    clear hR R
    refine hK6 _ _ ?_
    clear hK6 K6
    refine wp_ret ?_
    exact ret1 H rfl rfl ⟨rfl, (Ext.refl _).dr⟩
end Go.Proofs.Ytknllmcpogoeoaa
