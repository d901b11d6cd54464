/- rootcauselaw26.good, walked. -/
import Derived.Test.YtknllmcpogoeoaaR14
namespace Go.Proofs.Ytknllmcpogoeoaa
open Go.RowKit
set_option linter.unusedVariables false
set_option linter.unusedSimpArgs false
set_option maxRecDepth 100000
theorem bld80 (comp first : Nat) (w : World) : (Instr.build 80 #[(0, .int .u8 (comp : Int)), (1, .int .u32 (first : Int))]).run Try.prog w = .ok (.agg (plCells comp first (.slice none 0 0)).toArray) w := by kernel_rfl
theorem z80 (w : World) : (zeroValue 80).run Try.prog w = .ok (.agg (plCells 0 0 (.slice none 0 0)).toArray) w := by rw [Try.zeroValue80]; rfl
theorem isAgg80 (w : World) : (isAgg 80).run Try.prog w = .ok true w := by kernel_rfl
theorem size80 (w : World) : (sizeOf 80).run Try.prog w = .ok 3 w := by kernel_rfl
theorem el78 : ElemT 78 193 6 16 (.agg zero193.toArray) := ⟨under78, by kernel_rfl, rfl, by decide⟩
theorem bs78 (s : RStep) (w : World) : (Instr.buildSlice 78 1 #[(0, .agg s.cells.toArray)]).run Try.prog w = .ok (.slice (some ⟨w.heap.size, 0, none⟩) 1 1) (w.alloc (.cells s.cells.toArray 193)) := by
  obtain ⟨a, b, c, d, e, f⟩ := s
  kernel_rfl
def stepsC (ss : List RStep) : List Value := ss.flatMap RStep.cells
theorem stepsC_at : ∀ (ss : List RStep) (k : Nat) (s : RStep), ss[k]? = some s → ∀ j u, s.cells[j]? = some u → (stepsC ss)[k * 6 + j]? = some u
  | [], k, s, h, j, u, hu => by simp at h
  | q :: r, 0, s, h, j, u, hu => by
    simp only [List.getElem?_cons_zero, Option.some.injEq] at h
    subst h
    unfold stepsC
    rw [List.flatMap_cons, Nat.zero_mul, Nat.zero_add, List.getElem?_append_left ((List.getElem?_eq_some_iff.1 hu).1)]
    exact hu
  | q :: r, k + 1, s, h, j, u, hu => by
    rw [List.getElem?_cons_succ] at h
    have ih := stepsC_at r k s h j u hu
    unfold stepsC at ih ⊢
    have hl : q.cells.length = 6 := rfl
    rw [List.flatMap_cons, List.getElem?_append_right (by omega), hl, show (k + 1) * 6 + j - 6 = k * 6 + j by omega]
    exact ih
theorem rt_of {w : World} {B n c : Nat} {a : Option Addr} {ss : List RStep} (h : w.ownsRow B 193 6 (.slice a n c) n (stepsC ss)) (hl : ss.length = n) (hs : ∀ s ∈ ss, s.ok) : Rt w a n ss :=
  ⟨hl, fun k s hk => ⟨hs s (List.mem_of_getElem? hk), by
    have hkn := (List.getElem?_eq_some_iff.1 hk).1
    rcases h.2 with ⟨e, h0⟩ | ⟨g, cap, cur, e, hb, _⟩
    · omega
    · simp only [Value.slice.injEq] at e
      obtain ⟨rfl, _, rfl⟩ := e
      refine ⟨g, 0, rfl, fun j u hu => ?_⟩
      have := (Sr.of h).cells (k * 6 + j) u (stepsC_at ss k s hk j u hu)
      rwa [← Nat.add_assoc] at this⟩⟩
theorem Below.heap_setCells_ (w : World) (g o : Nat) (v : Value) (k : Nat) (hk : k ≠ g) : (w.setCell ⟨g, o, none⟩ v).heap[k]? = w.heap[k]? := Below.heap_setCell _ _ _ k hk
theorem plain_ok {w : World} {pa : Option Addr} {len : Nat} {ss : List RStep} (hr : Rt w pa len ss) (s : RStep) (hs : s ∈ ss.map plain) : s.ok := by
  obtain ⟨x, hx, rfl⟩ := List.mem_map.1 hs
  obtain ⟨k, hk⟩ := List.getElem?_of_mem hx
  exact (hr.cell k x hk).1
theorem goodP_any (comp first : Nat) (pa : Option Addr) (len pc : Nat) (ss : List RStep) (w0 : World) (hr : Rt w0 pa len ss) (hc : comp ≤ 255) (hf : first ≤ 4294967295) (hlen : len ≤ 8796093021952) : Calls Try.prog 67 #[.agg (plCells comp first (.slice pa len pc)).toArray] w0 fun e w' =>
    ∃ v' qs, e = .returned v' ∧ Rl w' w0.heap.size v' qs ∧ qs.map (·.1) = goodOf comp first ss ∧ Ext w0 w' := by
  refine calls_has (args := [.agg (plCells comp first (.slice pa len pc)).toArray]) Try.func67 rfl Try.ntmps67 (Nat.le_of_ble_eq_true rfl) (fun a H => ?_)
  simp only [argl, Nat.reduceAdd] at H
  refine wp_seq_k (fun K1 hK1 => ?_)
  refine e_region (fun R hR => ?_)
  refine e_op H rfl rfl (by decide) (x_box H rfl rfl bx_new) ?_
  clear H a; intro a H
  have B1 := Blk.new w0 80 (plCells comp first (.slice pa len pc))
  have E1 := (Ext.refl w0).al (.cells (plCells comp first (.slice pa len pc)).toArray 80)
  obtain ⟨g1, hg1⟩ : ∃ g, g = w0.heap.size := ⟨_, rfl⟩
  rw [← hg1] at H B1
  generalize w0.alloc (.cells (plCells comp first (.slice pa len pc)).toArray 80) = w1 at *
  refine e_op H rfl rfl (by decide) (x_assign H rfl rfl) ?_
  clear H a; intro a H
  refine e_nil (hR.out _ _ ?_)
  clear hR R
  refine hK1 _ _ ?_
  clear hK1 K1
  refine wp_seq_k (fun K2 hK2 => ?_)
  refine e_region (fun R hR => ?_)
  refine e_op H rfl rfl (by decide) (x_fieldAddr H rfl rfl (fa80_0 _ _)) ?_
  clear H a; intro a H
  refine e_op H rfl rfl (by decide) (x_load H rfl rfl (l_cell Try.isAgg5 (B1.at_ (i := 0) rfl))) ?_
  clear H a; intro a H
  refine e_op H rfl rfl (by decide) (x_fieldAddr H rfl rfl (fa80_1 _ _)) ?_
  clear H a; intro a H
  refine e_op H rfl rfl (by decide) (x_load H rfl rfl (l_cell Try.isAgg52 (B1.at_ (i := 1) rfl))) ?_
  clear H a; intro a H
  refine e_op H rfl rfl (by decide) (x_build H rfl rfl (bld80 _ _ _)) ?_
  clear H a; intro a H
  refine e_op H rfl rfl (by decide) (x_alloc H rfl (al_new (z80 _))) ?_
  clear H a; intro a H
  have D3 := Blk.new w1 80 (plCells 0 0 (.slice none 0 0))
  have B2 := B1.alloc (.cells (plCells 0 0 (.slice none 0 0)).toArray 80)
  have E2 := E1.al (.cells (plCells 0 0 (.slice none 0 0)).toArray 80)
  have B1l := B1.lt
  obtain ⟨g3, hg3⟩ : ∃ g, g = w1.heap.size := ⟨_, rfl⟩
  rw [← hg3] at H D3
  have hE1 := E1.sz
  have hgl : w0.heap.size ≤ g3 := by omega
  have hg13 : g1 ≠ g3 := by omega
  generalize w1.alloc (.cells (plCells 0 0 (.slice none 0 0)).toArray 80) = w2 at *
  refine e_st H rfl rfl (x_store H rfl rfl rfl (st_row D3 (by kernel_rfl) (by rfl) (by simp [Value.oneCell', plCells]))) ?_
  replace D3 := D3.row (plCells comp first (.slice none 0 0))
  replace B2 := B2.grown (grown_setRow w2 g3 (plCells comp first (.slice none 0 0)).toArray) (by simpa using hg13)
  replace E2 := E2.row_ hgl (plCells comp first (.slice none 0 0)).toArray
  generalize w2.setRow g3 (plCells comp first (.slice none 0 0)).toArray = w3 at *
  refine e_nil (hR.out _ _ ?_)
  clear hR R
  refine hK2 _ _ ?_
  clear hK2 K2
  refine wp_seq_k (fun K3 hK3 => ?_)
  refine wp_seq_k (fun K4 hK4 => ?_)
  refine e_region (fun R hR => ?_)
  refine e_op H rfl rfl (by decide) (x_fieldAddr H rfl rfl (fa80_2 _ _)) ?_
  clear H a; intro a H
  refine e_op H rfl rfl (by decide) (x_load H rfl rfl (l_cell Try.isAgg78 (B2.at_ (i := 2) rfl))) ?_
  clear H a; intro a H
  refine e_op H rfl rfl (by decide) (x_builtin H rfl rfl (fun cs => len_sl under78)) ?_
  clear H a; intro a H
  refine e_op H rfl rfl (by decide) (x_move H rfl rfl) ?_
  clear H a; intro a H
  refine e_nil (hR.out _ _ ?_)
  clear hR R
  refine hK4 _ _ ?_
  clear hK4 K4
  refine wp_block ?_
  refine wp_loop_ghost (fun n a w => ∃ i va c, i ≤ len ∧ n = len - i ∧ Has a 29 [(3, .pointer (some ⟨g3, 0, none⟩)), (12, .slice pa len pc), (13, .int .i64 ((len : Nat) : Int)), (14, .int .i64 (i : Int))] ∧ Blk w g3 80 (plCells comp first (.slice va i c)) ∧ w.ownsRow w0.heap.size 193 6 (.slice va i c) i (stepsC ((ss.take i).map plain)) ∧ Ext w0 w) (len) ?_ ?_
  · skip
    exact ⟨0, none, 0, by omega, rfl, H.sub ⟨rfl, rfl, rfl, rfl, trivial⟩, D3, World.ownsRow_nil _ _ _ _, E2⟩
  · skip
    clear H B2 D3 E2
    intro n a wq hI
    obtain ⟨i, va, c, hi, rfl, H, D3, O, E⟩ := hI
    rcases (show i < len ∨ i = len by omega) with hlt | rfl
    · skip
      obtain ⟨s, hsi⟩ : ∃ s, ss[i]? = some s := ⟨_, List.getElem?_eq_getElem (by rw [hr.leng]; exact hlt)⟩
      obtain ⟨hso, bb, ob, hpa, hcs⟩ := (hr.ext E).cell i s hsi
      subst hpa
      refine wp_seq_k (fun K5 hK5 => ?_)
      refine e_region (fun R hR => ?_)
      refine e_op H rfl rfl (by decide) (x_binI H rfl rfl rfl (b_lss (b := true) (dec_t (by omega)))) ?_
      clear H a; intro a H
      refine e_nil (hR.out _ _ ?_)
      clear hR R
      refine hK5 _ _ ?_
      clear hK5 K5
      refine wp_seq_k (fun K6 hK6 => ?_)
      refine c_true H rfl ?_
      refine wp_skip ?_
      refine hK6 _ _ ?_
      clear hK6 K6
      refine wp_seq_k (fun K7 hK7 => ?_)
      refine wp_block ?_
      refine wp_seq_k (fun K8 hK8 => ?_)
      refine e_region (fun R hR => ?_)
      refine e_op H rfl rfl (by decide) (x_indexAddr H rfl rfl rfl (i_slN (m := i) under78 size193 rfl hlt)) ?_
      clear H a; intro a H
      refine e_op H rfl rfl (by decide) (x_load H rfl rfl (l_part (cs := s.cells) isAgg193 size193 hcs)) ?_
      clear H a; intro a H
      refine e_op H rfl rfl (by decide) (x_alloc H rfl (al_new (z193 _))) ?_
      clear H a; intro a H
      have D5 := Blk.new wq 193 zero193
      have E3 := E.al (.cells zero193.toArray 193)
      have D3a := D3.alloc (.cells zero193.toArray 193)
      have Oa := row_al O (.cells zero193.toArray 193)
      have D3l := D3.lt
      obtain ⟨g5, hg5⟩ : ∃ g, g = wq.heap.size := ⟨_, rfl⟩
      have hOn : ∀ k, (Value.slice va i c).ownBlock = some k → k ≠ g5 := fun k hk => by have := ((Sr.of O).blk k hk).2.1; omega
      rw [← hg5] at H D5
      have hg5l : w0.heap.size ≤ g5 := by have := E.sz; omega
      have hg35 : g3 ≠ g5 := by omega
      generalize wq.alloc (.cells zero193.toArray 193) = wa at *
      refine e_st H rfl rfl (x_store H rfl rfl rfl (st_row D5 (by kernel_rfl) (by rfl) (by simp [Value.oneCell', RStep.cells]))) ?_
      replace D5 := D5.row s.cells
      replace E3 := E3.row_ hg5l s.cells.toArray
      replace D3a := D3a.grown (grown_setRow wa g5 s.cells.toArray) (by simpa using hg35)
      replace Oa := row_heap Oa (w' := wa.setRow g5 s.cells.toArray) (fun k hk => setRow_other wa g5 k _ (hOn k hk))
      generalize wa.setRow g5 s.cells.toArray = wb at *
      refine e_nil (hR.out _ _ ?_)
      clear hR R
      refine hK8 _ _ ?_
      clear hK8 K8
      refine wp_seq_k (fun K9 hK9 => ?_)
      refine e_region (fun R hR => ?_)
      refine e_op H rfl rfl (by decide) (x_fieldAddr H rfl rfl (fa193_3 _ _)) ?_
      clear H a; intro a H
      refine e_st H rfl rfl (x_store H rfl rfl rfl (st_cell rfl rfl Try.sizeOf4 (D5.frozen _) (D5.isSome 3 (by simp [RStep.cells])))) ?_
      have D5b : Blk (wb.setCell ⟨g5, 3, none⟩ (.bool false)) g5 193 ({ s with skip := false } : RStep).cells := D5.set_ 3 (.bool false)
      replace E3 := E3.st hg5l 3 (.bool false)
      replace D3a := D3a.far hg35 (o := 3) (.bool false)
      replace Oa := row_heap Oa (w' := wb.setCell ⟨g5, 3, none⟩ (.bool false)) (fun k hk => Below.heap_setCells_ wb g5 3 _ k (hOn k hk))
      clear D5
      generalize wb.setCell ⟨g5, 3, none⟩ (.bool false) = wc at *
      refine e_op H rfl rfl (by decide) (x_fieldAddr H rfl rfl (fa193_4 _ _)) ?_
      clear H a; intro a H
      refine e_st H rfl rfl (x_store H rfl rfl rfl (st_cell rfl rfl Try.sizeOf4 (D5b.frozen _) (D5b.isSome 4 (by simp [RStep.cells])))) ?_
      have D5c : Blk (wc.setCell ⟨g5, 4, none⟩ (.bool false)) g5 193 (plain s).cells := D5b.set_ 4 (.bool false)
      replace E3 := E3.st hg5l 4 (.bool false)
      replace D3a := D3a.far hg35 (o := 4) (.bool false)
      replace Oa := row_heap Oa (w' := wc.setCell ⟨g5, 4, none⟩ (.bool false)) (fun k hk => Below.heap_setCells_ wc g5 4 _ k (hOn k hk))
      clear D5b
      generalize wc.setCell ⟨g5, 4, none⟩ (.bool false) = wd at *
      refine e_nil (hR.out _ _ ?_)
      clear hR R
      refine hK9 _ _ ?_
      clear hK9 K9
      refine e_region (fun R hR => ?_)
      refine e_op H rfl rfl (by decide) (x_fieldAddr H rfl rfl (fa80_2 _ _)) ?_
      clear H a; intro a H
      refine e_op H rfl rfl (by decide) (x_load H rfl rfl (l_cell Try.isAgg78 (D3a.at_ (i := 2) rfl))) ?_
      clear H a; intro a H
      refine e_op H rfl rfl (by decide) (x_load H rfl rfl (l_part (cs := (plain s).cells) isAgg193 size193 (fun j v hv => by rw [D5c.cell, Nat.zero_add]; exact hv))) ?_
      clear H a; intro a H
      refine e_op H rfl rfl (by decide) (x_buildSlice H rfl rfl (bs78 _ _)) ?_
      clear H a; intro a H
      have D3e := D3a.alloc (.cells (plain s).cells.toArray 193)
      have E4 := E3.al (.cells (plain s).cells.toArray 193)
      obtain ⟨gn, cn, wn, hrn, On, Gn⟩ := run_appE el78 (wd.alloc (.cells (plain s).cells.toArray 193)) 78 w0.heap.size va i c _ wd.heap.size 1 1 (plain s).cells (row_al Oa _) rfl (news_new wd (plain s).cells 193) (by intro u hu; unfold RStep.cells at hu; simp only [List.mem_cons, List.not_mem_nil, or_false] at hu; rcases hu with h | h | h | h | h | h <;> rw [h] <;> rfl) (by omega) (by omega) E4.sz (by omega)
      have D3f := D3e.grown Gn (own_blk_ne (row_al Oa _) D3e (by decide))
      have E5 := E4.grown Gn (fun k hk => ((Sr.of Oa).blk k hk).1)
      refine e_op H rfl rfl (by decide) (x_builtin H rfl rfl (fun cs => bi_app hrn)) ?_
      clear H a; intro a H
      refine e_op H rfl rfl (by decide) (x_fieldAddr H rfl rfl (fa80_2 _ _)) ?_
      clear H a; intro a H
      refine e_st H rfl rfl (x_store H rfl rfl rfl (st_cell rfl rfl Try.sizeOf78 (D3f.frozen _) (D3f.isSome 2 (by simp [plCells])))) ?_
      have D3g : Blk (wn.setCell ⟨g3, 2, none⟩ (.slice (some ⟨gn, 0, none⟩) (i + 1) cn)) g3 80 (plCells comp first (.slice (some ⟨gn, 0, none⟩) (i + 1) cn)) := D3f.set_ 2 _
      have hgn3 : ∀ k, (Value.slice (some ⟨gn, 0, none⟩) (i + 1) cn).ownBlock = some k → k ≠ g3 := fun k hk e => own_blk_ne On D3f (by decide) (by rw [hk, e])
      have Oz := row_heap On (w' := wn.setCell ⟨g3, 2, none⟩ (.slice (some ⟨gn, 0, none⟩) (i + 1) cn)) (fun k hk => Below.heap_setCells_ wn g3 2 _ k (hgn3 k hk))
      have E6 := E5.st hgl 2 (.slice (some ⟨gn, 0, none⟩) (i + 1) cn)
      refine e_nil (hR.out _ _ ?_)
      clear hR R
      refine hK7 _ _ ?_
      clear hK7 K7
      refine e_region (fun R hR => ?_)
      refine e_op H rfl rfl (by decide) (x_binI H rfl rfl rfl (b_add (z := ((i + 1 : Nat) : Int)) (by rw [IntKind.wrap_i64]; omega))) ?_
      clear H a; intro a H
      refine e_op H rfl rfl (by decide) (x_move H rfl rfl) ?_
      clear H a; intro a H
      refine e_nil (hR.out _ _ ?_)
      clear hR R
      refine ⟨len - (i + 1), by omega, i + 1, some ⟨gn, 0, none⟩, cn, by omega, rfl, H.sub ⟨rfl, rfl, rfl, rfl, trivial⟩, D3g, ?_, E6⟩
      rw [List.take_add_one, hsi, Option.toList_some, List.map_append, show stepsC (List.map plain (List.take i ss) ++ List.map plain [s]) = stepsC (List.map plain (List.take i ss)) ++ (plain s).cells by unfold stepsC; simp]
      exact Oz
    · skip
      skip
      refine wp_seq_k (fun K10 hK10 => ?_)
      refine e_region (fun R hR => ?_)
      refine e_op H rfl rfl (by decide) (x_binI H rfl rfl rfl (b_lss (b := false) (dec_f (by omega)))) ?_
      clear H a; intro a H
      refine e_nil (hR.out _ _ ?_)
      clear hR R
      refine hK10 _ _ ?_
      clear hK10 K10
      refine wp_seq_k (fun K11 hK11 => ?_)
      refine c_false H rfl ?_
      refine wp_exit ?_
      refine t_exit ?_
      refine t_exit ?_
      refine b_hit ?_
      clear hK11 K11
      refine hK3 _ _ ?_
      clear hK3 K3
      refine wp_seq_k (fun K12 hK12 => ?_)
      refine e_region (fun R hR => ?_)
      refine e_op H rfl rfl (by decide) (x_load H rfl rfl (l_part (cs := plCells comp first (.slice va i c)) isAgg80 size80 (fun j v hv => by rw [D3.cell, Nat.zero_add]; exact hv))) ?_
      clear H a; intro a H
      refine e_callq H rfl rfl (by decide) rfl rfl (Try.call89 _) (recordsP_any comp first va i c (ss.map plain) wq (rt_of (by rw [List.take_of_length_le (by rw [hr.leng]; exact Nat.le_refl _)] at O; exact O) (by rw [List.length_map]; exact hr.leng) (fun s hs => plain_ok hr s hs)) hc hf) ?_
      clear H a
      rintro e we ⟨v', qs, rfl, RL, hqs, Fe⟩
      refine ⟨_, rfl, fun a H => ?_⟩
      refine e_op H rfl rfl (by decide) (x_assign H rfl rfl) ?_
      clear H a; intro a H
      refine e_nil (hR.out _ _ ?_)
      clear hR R
      refine hK12 _ _ ?_
      clear hK12 K12
      refine wp_ret ?_
      exact ret1 H rfl rfl ⟨_, qs, rfl, RL.mono E.sz, hqs, E.tr Fe⟩
end Go.Proofs.Ytknllmcpogoeoaa
