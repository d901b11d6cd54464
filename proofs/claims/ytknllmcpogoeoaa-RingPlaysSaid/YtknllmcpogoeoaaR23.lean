/- The reference's Put, walked. -/
import Derived.Test.YtknllmcpogoeoaaR22
namespace Go.Proofs.Ytknllmcpogoeoaa
open Go.RowKit
set_option linter.unusedVariables false
set_option linter.unusedSimpArgs false
set_option maxRecDepth 100000
theorem next_step {x : Rcd} (hg : x.good = true) (h3 : x.what ≠ 3) : nextOf x = (x.idx + x.step) % 18446744073709551616 := by
  unfold nextOf Rcd.step
  rcases good_what hg with h | h | h
  · have hl : x.lost = 0 := by
      unfold Rcd.good Rcd.good0 at hg
      rw [if_pos h] at hg
      simp only [Bool.and_eq_true, decide_eq_true_eq] at hg
      omega
    rw [if_neg (by omega), hl]
    rfl
  · have hl : 0 < x.lost := by
      unfold Rcd.good Rcd.good0 at hg
      rw [if_neg (by omega), if_pos h] at hg
      simp only [Bool.and_eq_true, decide_eq_true_eq] at hg
      omega
    rw [if_pos h, Nat.max_eq_left (by omega)]
  · exact absurd h h3
theorem told_at (l : List Rcd) (k : Nat) (x : Rcd) (h : l[k]? = some x) : (l.map toldOf)[k]? = some (toldOf x) := by rw [List.getElem?_map, h]; rfl
theorem refPut_era (r : Rg) (B : Nat) (va : Option Addr) (n c : Nat) (x : Rcd) (w0 : World) (hb : r.begun = true) (he : x.era ≠ r.era) : Calls Try.prog 91 #[.agg (rfCells r (.slice va n c)).toArray, .agg (toldOf x).cells.toArray] w0 fun e w' => e = .returned (.tuple #[.agg (rfCells r (.slice va n c)).toArray, .int .i64 0, .int .i64 11]) ∧ Ext w0 w' := by
  have hera : ((toldOf x).era != r.era) = true := by simp [toldOf, he]
  refine calls_has (args := [.agg (rfCells r (.slice va n c)).toArray, .agg (toldOf x).cells.toArray]) Try.func91 rfl Try.ntmps91 (Nat.le_of_ble_eq_true rfl) (fun a H => ?_)
  simp only [argl, Nat.reduceAdd] at H
  refine wp_seq_k (fun K1 hK1 => ?_)
  refine e_region (fun R hR => ?_)
  refine e_op H rfl rfl (by decide) (x_box H rfl rfl bx_new) ?_
  clear H a; intro a H
  have T2 := Blk.new w0 135 (rfCells r (.slice va n c))
  have Ea0 := (Ext.refl w0).al (.cells (rfCells r (.slice va n c)).toArray 135)
  obtain ⟨g2, hg2⟩ : ∃ g, g = w0.heap.size := ⟨_, rfl⟩
  rw [← hg2] at H T2
  generalize w0.alloc (.cells (rfCells r (.slice va n c)).toArray 135) = wa0 at *
  refine e_op H rfl rfl (by decide) (x_box H rfl rfl bx_new) ?_
  clear H a; intro a H
  have T3 := Blk.new wa0 141 ((toldOf x).cells)
  have hl2 := T2.lt
  replace T2 := T2.alloc (.cells ((toldOf x).cells).toArray 141)
  have Eb0 := Ea0.al (.cells ((toldOf x).cells).toArray 141)
  obtain ⟨g3, hg3⟩ : ∃ g, g = wa0.heap.size := ⟨_, rfl⟩
  rw [← hg3] at H T3
  generalize wa0.alloc (.cells ((toldOf x).cells).toArray 141) = wb0 at *
  refine e_op H rfl rfl (by decide) (x_alloc H rfl (al_new (z135 _))) ?_
  clear H a; intro a H
  have D4 := Blk.new wb0 135 zero135
  have hl3 := T3.lt
  have hs0 := Eb0.sz
  have hs1 := Ea0.sz
  replace T2 := T2.alloc (.cells zero135.toArray 135)
  replace T3 := T3.alloc (.cells zero135.toArray 135)
  have E := Eb0.al (.cells zero135.toArray 135)
  obtain ⟨g4, hg4⟩ : ∃ g, g = wb0.heap.size := ⟨_, rfl⟩
  rw [← hg4] at H D4
  have hne23 : g2 ≠ g3 := by omega
  have hne24 : g2 ≠ g4 := by have := T2.lt; omega
  have hne34 : g3 ≠ g4 := by omega
  have hlo2 : w0.heap.size ≤ g2 := by omega
  have hlo3 : w0.heap.size ≤ g3 := by omega
  have hlo4 : w0.heap.size ≤ g4 := by omega
  clear Ea0 Eb0
  generalize wb0.alloc (.cells zero135.toArray 135) = w3 at *
  refine e_op H rfl rfl (by decide) (x_assign H rfl rfl) ?_
  clear H a; intro a H
  refine e_op H rfl rfl (by decide) (x_assign H rfl rfl) ?_
  clear H a; intro a H
  refine e_nil (hR.out _ _ ?_)
  clear hR R
  refine hK1 _ _ ?_
  clear hK1 K1
  refine wp_seq_k (fun K2 hK2 => ?_)
  refine wp_seq_k (fun K3 hK3 => ?_)
  refine e_region (fun R hR => ?_)
  refine e_op H rfl rfl (by decide) (x_fieldAddr H rfl rfl (fa135_2 _ _)) ?_
  clear H a; intro a H
  refine e_op H rfl rfl (by decide) (x_load H rfl rfl (l_cell Try.isAgg4 ((show _ = some (.bool true) by rw [← hb]; exact T2.at_ (i := 2) rfl)))) ?_
  clear H a; intro a H
  refine e_op H rfl rfl (by decide) (x_move H rfl rfl) ?_
  clear H a; intro a H
  refine e_opg H (wanted_true H rfl rfl rfl rfl) rfl (by decide) (x_fieldAddr H rfl rfl (fa141_0 _ _)) ?_
  clear H a; intro a H
  refine e_opg H (wanted_true H rfl rfl rfl rfl) rfl (by decide) (x_load H rfl rfl (l_cell Try.isAgg3 (T3.at_ (i := 0) rfl))) ?_
  clear H a; intro a H
  refine e_opg H (wanted_true H rfl rfl rfl rfl) rfl (by decide) (x_fieldAddr H rfl rfl (fa135_3 _ _)) ?_
  clear H a; intro a H
  refine e_opg H (wanted_true H rfl rfl rfl rfl) rfl (by decide) (x_load H rfl rfl (l_cell Try.isAgg3 (T2.at_ (i := 3) rfl))) ?_
  clear H a; intro a H
  refine e_opg H (wanted_true H rfl rfl rfl rfl) rfl (by decide) (x_binI H rfl rfl rfl (b_neq (b := true) (hera))) ?_
  clear H a; intro a H
  refine e_opg H (wanted_true H rfl rfl rfl rfl) rfl (by decide) (x_move H rfl rfl) ?_
  clear H a; intro a H
  refine e_skip H (wanted_false H rfl rfl rfl rfl) rfl (by decide) ?_
  clear H a; intro a H
  refine e_skip H (wanted_false H rfl rfl rfl rfl) rfl (by decide) ?_
  clear H a; intro a H
  refine e_skip H (wanted_false H rfl rfl rfl rfl) rfl (by decide) ?_
  clear H a; intro a H
  refine e_skip H (wanted_false H rfl rfl rfl rfl) rfl (by decide) ?_
  clear H a; intro a H
  refine e_skip H (wanted_false H rfl rfl rfl rfl) rfl (by decide) ?_
  clear H a; intro a H
  refine e_opg H (wanted_true H rfl rfl rfl rfl) rfl (by decide) (x_pickT H rfl rfl rfl) ?_
  clear H a; intro a H
  refine e_op H rfl rfl (by decide) (x_pickT H rfl rfl rfl) ?_
  clear H a; intro a H
  refine e_nil (hR.out _ _ ?_)
  clear hR R
  refine hK3 _ _ ?_
  clear hK3 K3
  refine c_true H rfl ?_
  refine wp_seq_k (fun K4 hK4 => ?_)
  refine e_region (fun R hR => ?_)
  refine e_op H rfl rfl (by decide) (x_load H rfl rfl (l_part (cs := rfCells r (.slice va n c)) isAgg135 size135 (fun j v hv => by rw [T2.cell, Nat.zero_add]; exact hv))) ?_
  clear H a; intro a H
  refine e_st H rfl rfl (x_store H rfl rfl rfl (st_row D4 (by kernel_rfl) (by rfl) (by simp [Value.oneCell', rfCells]))) ?_
  refine e_op H rfl rfl (by decide) (x_assign H rfl rfl) ?_
  clear H a; intro a H
  refine e_op H rfl rfl (by decide) (x_assign H rfl rfl) ?_
  clear H a; intro a H
  refine e_nil (hR.out _ _ ?_)
  clear hR R
  refine hK4 _ _ ?_
  clear hK4 K4
  refine wp_ret ?_
  refine t_ret ?_
  exact retctt H rfl rfl rfl rfl (D4.row (rfCells r (.slice va n c))) Try.underlying135 rfl (by kernel_rfl) ⟨rfl, E.row_ hlo4 _⟩
theorem refPut_idx (r : Rg) (B : Nat) (va : Option Addr) (n c : Nat) (x : Rcd) (w0 : World) (hb : r.begun = true) (he : x.era = r.era) (hi0 : x.idx ≠ r.next) : Calls Try.prog 91 #[.agg (rfCells r (.slice va n c)).toArray, .agg (toldOf x).cells.toArray] w0 fun e w' => e = .returned (.tuple #[.agg (rfCells r (.slice va n c)).toArray, .int .i64 0, .int .i64 11]) ∧ Ext w0 w' := by
  have hera : ((toldOf x).era != r.era) = false := by simp [toldOf, he]
  have hidx : ((((toldOf x).seq : Nat) : Int) != ((r.next : Nat) : Int)) = true := by simp [toldOf]; omega
  refine calls_has (args := [.agg (rfCells r (.slice va n c)).toArray, .agg (toldOf x).cells.toArray]) Try.func91 rfl Try.ntmps91 (Nat.le_of_ble_eq_true rfl) (fun a H => ?_)
  simp only [argl, Nat.reduceAdd] at H
  refine wp_seq_k (fun K1 hK1 => ?_)
  refine e_region (fun R hR => ?_)
  refine e_op H rfl rfl (by decide) (x_box H rfl rfl bx_new) ?_
  clear H a; intro a H
  have T2 := Blk.new w0 135 (rfCells r (.slice va n c))
  have Ea0 := (Ext.refl w0).al (.cells (rfCells r (.slice va n c)).toArray 135)
  obtain ⟨g2, hg2⟩ : ∃ g, g = w0.heap.size := ⟨_, rfl⟩
  rw [← hg2] at H T2
  generalize w0.alloc (.cells (rfCells r (.slice va n c)).toArray 135) = wa0 at *
  refine e_op H rfl rfl (by decide) (x_box H rfl rfl bx_new) ?_
  clear H a; intro a H
  have T3 := Blk.new wa0 141 ((toldOf x).cells)
  have hl2 := T2.lt
  replace T2 := T2.alloc (.cells ((toldOf x).cells).toArray 141)
  have Eb0 := Ea0.al (.cells ((toldOf x).cells).toArray 141)
  obtain ⟨g3, hg3⟩ : ∃ g, g = wa0.heap.size := ⟨_, rfl⟩
  rw [← hg3] at H T3
  generalize wa0.alloc (.cells ((toldOf x).cells).toArray 141) = wb0 at *
  refine e_op H rfl rfl (by decide) (x_alloc H rfl (al_new (z135 _))) ?_
  clear H a; intro a H
  have D4 := Blk.new wb0 135 zero135
  have hl3 := T3.lt
  have hs0 := Eb0.sz
  have hs1 := Ea0.sz
  replace T2 := T2.alloc (.cells zero135.toArray 135)
  replace T3 := T3.alloc (.cells zero135.toArray 135)
  have E := Eb0.al (.cells zero135.toArray 135)
  obtain ⟨g4, hg4⟩ : ∃ g, g = wb0.heap.size := ⟨_, rfl⟩
  rw [← hg4] at H D4
  have hne23 : g2 ≠ g3 := by omega
  have hne24 : g2 ≠ g4 := by have := T2.lt; omega
  have hne34 : g3 ≠ g4 := by omega
  have hlo2 : w0.heap.size ≤ g2 := by omega
  have hlo3 : w0.heap.size ≤ g3 := by omega
  have hlo4 : w0.heap.size ≤ g4 := by omega
  clear Ea0 Eb0
  generalize wb0.alloc (.cells zero135.toArray 135) = w3 at *
  refine e_op H rfl rfl (by decide) (x_assign H rfl rfl) ?_
  clear H a; intro a H
  refine e_op H rfl rfl (by decide) (x_assign H rfl rfl) ?_
  clear H a; intro a H
  refine e_nil (hR.out _ _ ?_)
  clear hR R
  refine hK1 _ _ ?_
  clear hK1 K1
  refine wp_seq_k (fun K2 hK2 => ?_)
  refine wp_seq_k (fun K3 hK3 => ?_)
  refine e_region (fun R hR => ?_)
  refine e_op H rfl rfl (by decide) (x_fieldAddr H rfl rfl (fa135_2 _ _)) ?_
  clear H a; intro a H
  refine e_op H rfl rfl (by decide) (x_load H rfl rfl (l_cell Try.isAgg4 ((show _ = some (.bool true) by rw [← hb]; exact T2.at_ (i := 2) rfl)))) ?_
  clear H a; intro a H
  refine e_op H rfl rfl (by decide) (x_move H rfl rfl) ?_
  clear H a; intro a H
  refine e_opg H (wanted_true H rfl rfl rfl rfl) rfl (by decide) (x_fieldAddr H rfl rfl (fa141_0 _ _)) ?_
  clear H a; intro a H
  refine e_opg H (wanted_true H rfl rfl rfl rfl) rfl (by decide) (x_load H rfl rfl (l_cell Try.isAgg3 (T3.at_ (i := 0) rfl))) ?_
  clear H a; intro a H
  refine e_opg H (wanted_true H rfl rfl rfl rfl) rfl (by decide) (x_fieldAddr H rfl rfl (fa135_3 _ _)) ?_
  clear H a; intro a H
  refine e_opg H (wanted_true H rfl rfl rfl rfl) rfl (by decide) (x_load H rfl rfl (l_cell Try.isAgg3 (T2.at_ (i := 3) rfl))) ?_
  clear H a; intro a H
  refine e_opg H (wanted_true H rfl rfl rfl rfl) rfl (by decide) (x_binI H rfl rfl rfl (b_neq (b := false) (hera))) ?_
  clear H a; intro a H
  refine e_opg H (wanted_true H rfl rfl rfl rfl) rfl (by decide) (x_move H rfl rfl) ?_
  clear H a; intro a H
  refine e_opg H (wanted_true H rfl rfl rfl rfl) rfl (by decide) (x_fieldAddr H rfl rfl (fa141_2 _ _)) ?_
  clear H a; intro a H
  refine e_opg H (wanted_true H rfl rfl rfl rfl) rfl (by decide) (x_load H rfl rfl (l_cell Try.isAgg56 (T3.at_ (i := 2) rfl))) ?_
  clear H a; intro a H
  refine e_opg H (wanted_true H rfl rfl rfl rfl) rfl (by decide) (x_fieldAddr H rfl rfl (fa135_5 _ _)) ?_
  clear H a; intro a H
  refine e_opg H (wanted_true H rfl rfl rfl rfl) rfl (by decide) (x_load H rfl rfl (l_cell Try.isAgg56 (T2.at_ (i := 5) rfl))) ?_
  clear H a; intro a H
  refine e_opg H (wanted_true H rfl rfl rfl rfl) rfl (by decide) (x_binI H rfl rfl rfl (b_neq (b := true) (hidx))) ?_
  clear H a; intro a H
  refine e_opg H (wanted_true H rfl rfl rfl rfl) rfl (by decide) (x_pickF H rfl rfl rfl) ?_
  clear H a; intro a H
  refine e_op H rfl rfl (by decide) (x_pickT H rfl rfl rfl) ?_
  clear H a; intro a H
  refine e_nil (hR.out _ _ ?_)
  clear hR R
  refine hK3 _ _ ?_
  clear hK3 K3
  refine c_true H rfl ?_
  refine wp_seq_k (fun K4 hK4 => ?_)
  refine e_region (fun R hR => ?_)
  refine e_op H rfl rfl (by decide) (x_load H rfl rfl (l_part (cs := rfCells r (.slice va n c)) isAgg135 size135 (fun j v hv => by rw [T2.cell, Nat.zero_add]; exact hv))) ?_
  clear H a; intro a H
  refine e_st H rfl rfl (x_store H rfl rfl rfl (st_row D4 (by kernel_rfl) (by rfl) (by simp [Value.oneCell', rfCells]))) ?_
  refine e_op H rfl rfl (by decide) (x_assign H rfl rfl) ?_
  clear H a; intro a H
  refine e_op H rfl rfl (by decide) (x_assign H rfl rfl) ?_
  clear H a; intro a H
  refine e_nil (hR.out _ _ ?_)
  clear hR R
  refine hK4 _ _ ?_
  clear hK4 K4
  refine wp_ret ?_
  refine t_ret ?_
  exact retctt H rfl rfl rfl rfl (D4.row (rfCells r (.slice va n c))) Try.underlying135 rfl (by kernel_rfl) ⟨rfl, E.row_ hlo4 _⟩
section
variable {w w' : World} {B : Nat} {v : Value} {xs : List Itm} {g : Nat} {cs : List Value}
theorem It.ne2 (h : It w B v xs) (T : Blk w g 135 cs) : ∀ k, v.ownBlock = some k → k ≠ g := by
  rintro k hk rfl
  obtain ⟨_, _, cur, hc⟩ := Sr.blk h k hk
  unfold Blk at T
  rw [T] at hc
  simp at hc
theorem It.ne4 (h : It w B v xs) (T : Blk w g 135 cs) : ∀ k, v.ownBlock = some k → k ≠ g := h.ne2 T
theorem It.frm' (h : It w B v xs) {o : Nat} {v' : Value} (hv : ∀ k, v.ownBlock = some k → k ≠ g) : It (w.setCell ⟨g, o, none⟩ v') B v xs := Sr.heap h (fun k hk => Below.heap_setCells_ w g o v' k (hv k hk))
theorem told_le (L : List Rcd) (h : ∀ y ∈ L, y.words.length = 16) (j : Nat) : ∀ p ∈ (L.drop j).map toldOf, p.size ≤ 400 := by
  intro p hp
  obtain ⟨y, hy, rfl⟩ := List.mem_map.1 hp
  exact size_le y (h y (List.mem_of_mem_drop hy))
end
set_option maxHeartbeats 1600000 in
theorem refPut_ok (r : Rg) (B : Nat) (va : Option Addr) (n c : Nat) (x : Rcd) (w0 : World) (hit : It w0 B (.slice va n c) (r.list.map toldOf)) (hrl : r.list.length = n) (hx : x.ok) (hg : x.good = true) (hw3n : x.what ≠ 3) (hbeg : r.begun = true → x.era = r.era ∧ x.idx = r.next) (hus : r.used = sizes r.list) (hw16 : ∀ y ∈ r.list ++ [x], y.words.length = 16) (hn : n ≤ 100000) (hc1 : 1 ≤ r.cap) :
    Calls Try.prog 91 #[.agg (rfCells r (.slice va n c)).toArray, .agg (toldOf x).cells.toArray] w0 fun e w' => ∃ a' c', e = .returned (.tuple #[.agg (rfCells (r.put x).1 (.slice a' (r.put x).1.list.length c')).toArray, .int .i64 (((r.put x).2.1 : Nat) : Int), .int .i64 (((r.put x).2.2 : Nat) : Int)]) ∧ It w' w0.heap.size (.slice a' (r.put x).1.list.length c') ((r.put x).1.list.map toldOf) ∧ Ext w0 w' := by
  have hcode0 : r.code x = 0 := by
    unfold Rg.code
    rw [if_neg (by rw [hg]; simp [hw3n]), if_neg]
    rintro ⟨h, h2 | h2⟩
    · exact h2 (hbeg h).1
    · exact h2 (hbeg h).2
  have hitl := fun k hk => (Sr.blk hit k hk).2.1
  refine calls_has (args := [.agg (rfCells r (.slice va n c)).toArray, .agg (toldOf x).cells.toArray]) Try.func91 rfl Try.ntmps91 (Nat.le_of_ble_eq_true rfl) (fun a H => ?_)
  simp only [argl, Nat.reduceAdd] at H
  refine wp_seq_k (fun K1 hK1 => ?_)
  refine e_region (fun R hR => ?_)
  refine e_op H rfl rfl (by decide) (x_box H rfl rfl bx_new) ?_
  clear H a; intro a H
  have T2 := Blk.new w0 135 (rfCells r (.slice va n c))
  have Ea0 := (Ext.refl w0).al (.cells (rfCells r (.slice va n c)).toArray 135)
  obtain ⟨g2, hg2⟩ : ∃ g, g = w0.heap.size := ⟨_, rfl⟩
  rw [← hg2] at H T2
  generalize w0.alloc (.cells (rfCells r (.slice va n c)).toArray 135) = wa0 at *
  refine e_op H rfl rfl (by decide) (x_box H rfl rfl bx_new) ?_
  clear H a; intro a H
  have T3 := Blk.new wa0 141 ((toldOf x).cells)
  have hl2 := T2.lt
  replace T2 := T2.alloc (.cells ((toldOf x).cells).toArray 141)
  have Eb0 := Ea0.al (.cells ((toldOf x).cells).toArray 141)
  obtain ⟨g3, hg3⟩ : ∃ g, g = wa0.heap.size := ⟨_, rfl⟩
  rw [← hg3] at H T3
  generalize wa0.alloc (.cells ((toldOf x).cells).toArray 141) = wb0 at *
  refine e_op H rfl rfl (by decide) (x_alloc H rfl (al_new (z135 _))) ?_
  clear H a; intro a H
  have D4 := Blk.new wb0 135 zero135
  have hl3 := T3.lt
  have hs0 := Eb0.sz
  have hs1 := Ea0.sz
  replace T2 := T2.alloc (.cells zero135.toArray 135)
  replace T3 := T3.alloc (.cells zero135.toArray 135)
  have E := Eb0.al (.cells zero135.toArray 135)
  obtain ⟨g4, hg4⟩ : ∃ g, g = wb0.heap.size := ⟨_, rfl⟩
  rw [← hg4] at H D4
  have hne23 : g2 ≠ g3 := by omega
  have hne24 : g2 ≠ g4 := by have := T2.lt; omega
  have hne34 : g3 ≠ g4 := by omega
  have hlo2 : w0.heap.size ≤ g2 := by omega
  have hlo3 : w0.heap.size ≤ g3 := by omega
  have hlo4 : w0.heap.size ≤ g4 := by omega
  clear Ea0 Eb0
  generalize wb0.alloc (.cells zero135.toArray 135) = w3 at *
  replace hit := hit.ext E
  have hvg : ∀ k, (Value.slice va n c).ownBlock = some k → k ≠ g2 := fun k hk => by have := hitl k hk; omega
  refine e_op H rfl rfl (by decide) (x_assign H rfl rfl) ?_
  clear H a; intro a H
  refine e_op H rfl rfl (by decide) (x_assign H rfl rfl) ?_
  clear H a; intro a H
  refine e_nil (hR.out _ _ ?_)
  clear hR R
  refine hK1 _ _ ?_
  clear hK1 K1
  refine wp_seq_k (fun K2 hK2 => ?_)
  refine wp_seq_k (fun K3 hK3 => ?_)
  refine Code.wp_mono (Q := fun e a w => e = Exit.normal ∧ Has a 85 [(2, .pointer (some ⟨g2, 0, none⟩)), (3, .pointer (some ⟨g3, 0, none⟩)), (4, .pointer (some ⟨g4, 0, none⟩)), (23, .bool false)] ∧ w = w3) (fun e a w hM => ?_) ?_
  · skip
    clear H
    obtain ⟨rfl, H, hww⟩ := hM
    rw [hww]
    clear hww w
    refine hK3 _ _ ?_
    clear hK3 K3
    refine c_false H rfl ?_
    refine wp_skip ?_
    refine hK2 _ _ ?_
    clear hK2 K2
    refine wp_seq_k (fun K4 hK4 => ?_)
    refine wp_seq_k (fun K5 hK5 => ?_)
    refine e_region (fun R hR => ?_)
    refine e_op H rfl rfl (by decide) (x_fieldAddr H rfl rfl (fa135_2 _ _)) ?_
    clear H a; intro a H
    refine e_op H rfl rfl (by decide) (x_load H rfl rfl (l_cell Try.isAgg4 (T2.at_ (i := 2) rfl))) ?_
    clear H a; intro a H
    refine e_op H rfl rfl (by decide) (x_un H rfl rfl (u_not (c := (!r.begun)) (rfl))) ?_
    clear H a; intro a H
    refine e_nil (hR.out _ _ ?_)
    clear hR R
    refine hK5 _ _ ?_
    clear hK5 K5
    refine Code.wp_mono (Q := fun e a w => e = Exit.normal ∧ Has a 85 [(2, .pointer (some ⟨g2, 0, none⟩)), (3, .pointer (some ⟨g3, 0, none⟩)), (4, .pointer (some ⟨g4, 0, none⟩))] ∧ Blk w g2 135 [.int .i64 r.cap, (.slice va n c), .bool true, .int .i64 (r.add x).era, .int .u64 (((r.add x).first : Nat) : Int), .int .u64 (r.next : Int)] ∧ Blk w g3 141 (toldOf x).cells ∧ Blk w g4 135 zero135 ∧ It w B (.slice va n c) (r.list.map toldOf) ∧ Ext w0 w) (fun e a w hM => ?_) ?_
    · skip
      clear H T2 T3 D4 hit E
      obtain ⟨rfl, H, T2, T3, D4, hit, E⟩ := hM
      refine hK4 _ _ ?_
      clear hK4 K4
      refine wp_seq_k (fun K6 hK6 => ?_)
      refine e_region (fun R hR => ?_)
      refine e_op H rfl rfl (by decide) (x_fieldAddr H rfl rfl (fa141_2 _ _)) ?_
      clear H a; intro a H
      refine e_op H rfl rfl (by decide) (x_load H rfl rfl (l_cell Try.isAgg56 (T3.at_ (i := 2) rfl))) ?_
      clear H a; intro a H
      refine e_op H rfl rfl (by decide) (x_fieldAddr H rfl rfl (fa141_3 _ _)) ?_
      clear H a; intro a H
      refine e_op H rfl rfl (by decide) (x_load H rfl rfl (l_cell Try.isAgg56 (T3.at_ (i := 3) rfl))) ?_
      clear H a; intro a H
      refine e_op H rfl rfl (by decide) (x_binI H rfl rfl rfl (b_add (z := ((nextOf x : Nat) : Int)) (by rw [next_step hg hw3n, IntKind.wrap_u64]; show ((x.idx : Int) + (x.step : Int)) % _ = _; omega))) ?_
      clear H a; intro a H
      refine e_op H rfl rfl (by decide) (x_fieldAddr H rfl rfl (fa135_5 _ _)) ?_
      clear H a; intro a H
      refine e_st H rfl rfl (x_store H rfl rfl rfl (st_cell rfl rfl Try.sizeOf56 (T2.frozen _) (T2.isSome 5 (by simp [rfCells])))) ?_
      have RBn : Blk (w.setCell ⟨g2, 5, none⟩ (.int .u64 ((nextOf x : Nat) : Int))) g2 135 [.int .i64 r.cap, (.slice va n c), .bool true, .int .i64 (r.add x).era, .int .u64 (((r.add x).first : Nat) : Int), .int .u64 ((nextOf x : Nat) : Int)] := T2.set_ 5 (.int .u64 ((nextOf x : Nat) : Int))
      replace E := E.st hlo2 5 (.int .u64 ((nextOf x : Nat) : Int))
      replace T3 := T3.far hne23.symm (o := 5) (.int .u64 ((nextOf x : Nat) : Int))
      replace D4 := D4.far hne24.symm (o := 5) (.int .u64 ((nextOf x : Nat) : Int))
      replace hit := hit.frm' (g := g2) (o := 5) (v' := .int .u64 ((nextOf x : Nat) : Int)) hvg
      replace T2 := RBn
      clear RBn
      generalize w.setCell ⟨g2, 5, none⟩ (.int .u64 ((nextOf x : Nat) : Int)) = w8 at *
      refine e_nil (hR.out _ _ ?_)
      clear hR R
      refine hK6 _ _ ?_
      clear hK6 K6
      refine wp_seq_k (fun K7 hK7 => ?_)
      obtain ⟨wc, hwc⟩ : ∃ wx, wx = w8.drew := ⟨_, rfl⟩
      have Ewc : Ext w8 wc := by rw [hwc]; exact (Ext.refl _).dr
      replace T2 := T2.ext Ewc
      replace T3 := T3.ext Ewc
      replace D4 := D4.ext Ewc
      replace E := E.tr Ewc
      try replace hit := hit.ext Ewc
      obtain ⟨wd0, hwd0⟩ : ∃ wx, wx = wc := ⟨_, rfl⟩
      have T30 : Blk wd0 g3 141 (toldOf x).cells := by rw [hwd0]; exact T3
      have FSq : Frm [g2] wd0 wc := by rw [hwd0]; exact Frm.refl _ _
      have hd2 : g2 < wd0.heap.size := by rw [hwd0]; exact T2.lt
      have hd3 : g3 < wd0.heap.size := T30.lt
      have hd4 : g4 < wd0.heap.size := by rw [hwd0]; exact D4.lt
      have hE0 : w0.heap.size ≤ wd0.heap.size := by rw [hwd0]; exact E.sz
      clear hwd0
      refine Code.wp_mono (Q := fun e a w => e = Exit.normal ∧ ∃ a6 c6, Has a 85 [(2, .pointer (some ⟨g2, 0, none⟩)), (3, .pointer (some ⟨g3, 0, none⟩)), (4, .pointer (some ⟨g4, 0, none⟩))] ∧ Blk w g2 135 (rfCells (r.add x) (.slice a6 (n + 1) c6)) ∧ Blk w g4 135 zero135 ∧ It w w0.heap.size (.slice a6 (n + 1) c6) ((r.list ++ [x]).map toldOf) ∧ Ext w0 w) (fun e a w hM => ?_) ?_
      · skip
        clear H T2 T3 D4 hit E FSq T30 hd2 hd3 hd4 hE0
        obtain ⟨rfl, a6, c6, H, T2, D4, hit, E⟩ := hM
        refine hK7 _ _ ?_
        clear hK7 K7
        refine wp_seq_k (fun K8 hK8 => ?_)
        refine e_region (fun R hR => ?_)
        obtain ⟨L, hL⟩ : ∃ L, L = r.list ++ [x] := ⟨_, rfl⟩
        rw [← hL] at hit
        have hLl : L.length = n + 1 := by rw [hL, List.length_append, hrl]; rfl
        have hLw : ∀ y ∈ L, y.words.length = 16 := by rw [hL]; exact hw16
        obtain ⟨D, hD⟩ : ∃ D, D = (dropR r.cap (sizes L) L).1 := ⟨_, rfl⟩
        have hcapR : (r.add x).cap = r.cap := rfl
        refine e_op H rfl rfl (by decide) (x_assign H rfl rfl) ?_
        clear H a; intro a H
        refine e_nil (hR.out _ _ ?_)
        clear hR R
        refine hK8 _ _ ?_
        clear hK8 K8
        refine wp_seq_k (fun K9 hK9 => ?_)
        refine wp_block ?_
        refine wp_loop_ghost (fun m a w => ∃ j a6 c6, j ≤ n + 1 ∧ m = n + 1 - j ∧ j + (dropR r.cap (sizes (L.drop j)) (L.drop j)).1 = D ∧ Has a 85 [(2, .pointer (some ⟨g2, 0, none⟩)), (3, .pointer (some ⟨g3, 0, none⟩)), (4, .pointer (some ⟨g4, 0, none⟩)), (7, .int .i64 (j : Int))] ∧ Blk w g2 135 (rfCells (r.add x) (.slice a6 (n + 1 - j) c6)) ∧ Blk w g4 135 zero135 ∧ It w w0.heap.size (.slice a6 (n + 1 - j) c6) ((L.drop j).map toldOf) ∧ Ext w0 w) (n + 1) ?_ ?_
        · skip
          exact ⟨0, a6, c6, by omega, rfl, by rw [List.drop_zero, Nat.zero_add, hD], H.sub ⟨rfl, rfl, rfl, rfl, trivial⟩, T2, D4, by rw [List.drop_zero]; exact hit, E⟩
        · skip
          clear H T2 D4 hit E
          intro m a wq hI
          obtain ⟨j, a6, c6, hj, rfl, hjD, H, T2, D4, hit, E⟩ := hI
          skip
          refine wp_seq_k (fun K10 hK10 => ?_)
          refine wp_seq_k (fun K11 hK11 => ?_)
          obtain ⟨wd, hwd⟩ : ∃ wx, wx = wq.drew := ⟨_, rfl⟩
          have Ewd : Ext wq wd := by rw [hwd]; exact (Ext.refl _).dr
          replace T2 := T2.ext Ewd
          replace D4 := D4.ext Ewd
          replace hit := hit.ext Ewd
          replace E := E.tr Ewd
          have T0 := T2
          have FSq := Ext.refl wd
          refine Code.wp_mono (Q := fun e a w => e = Exit.normal ∧ ∃ b, Has a 85 [(2, .pointer (some ⟨g2, 0, none⟩)), (3, .pointer (some ⟨g3, 0, none⟩)), (4, .pointer (some ⟨g4, 0, none⟩)), (7, .int .i64 (j : Int)), (59, .bool b)] ∧ (b = true → j < n + 1 ∧ r.cap < (sizes (L.drop j) : Int)) ∧ (b = false → L.drop j = [] ∨ (sizes (L.drop j) : Int) ≤ r.cap) ∧ Blk w g2 135 (rfCells (r.add x) (.slice a6 (n + 1 - j) c6)) ∧ Blk w g4 135 zero135 ∧ It w w0.heap.size (.slice a6 (n + 1 - j) c6) ((L.drop j).map toldOf) ∧ Ext w0 w) (fun e a w hM => ?_) ?_
          · skip
            clear H T2 D4 hit E T0 FSq
            obtain ⟨rfl, b, H, hbt, hbf, T2, D4, hit, E⟩ := hM
            refine hK11 _ _ ?_
            clear hK11 K11
            refine c_split H rfl (fun ht => ?_) (fun ht => ?_)
            · skip
              obtain ⟨hjl, hcu⟩ := hbt ht
              obtain ⟨p, hp⟩ : ∃ p, L[j]? = some p := ⟨_, List.getElem?_eq_getElem (by omega)⟩
              have hdj : L.drop j = p :: L.drop (j + 1) := by
                obtain ⟨hl, e⟩ := List.getElem?_eq_some_iff.1 hp
                rw [List.drop_eq_getElem_cons hl, e]
              have hsz : sizes (L.drop j) = p.size + sizes (L.drop (j + 1)) := by rw [hdj]; unfold sizes; simp
              obtain ⟨wq, hwq⟩ : ∃ x, x = w := ⟨_, rfl⟩
              subst hwq
              refine wp_skip ?_
              refine hK10 _ _ ?_
              clear hK10 K10
              refine wp_block ?_
              refine wp_seq_k (fun K12 hK12 => ?_)
              refine e_region (fun R hR => ?_)
              refine e_op H rfl rfl (by decide) (x_fieldAddr H rfl rfl (fa135_1 _ _)) ?_
              clear H a; intro a H
              refine e_op H rfl rfl (by decide) (x_load H rfl rfl (l_cell Try.isAgg133 (T2.at_ (i := 1) rfl))) ?_
              clear H a; intro a H
              refine e_op H rfl rfl (by decide) (x_slice H rfl rfl rfl rfl (sl_loN (lo := 1) under133 size141 rfl (by omega))) ?_
              clear H a; intro a H
              refine e_op H rfl rfl (by decide) (x_fieldAddr H rfl rfl (fa135_1 _ _)) ?_
              clear H a; intro a H
              have hit2 := hit.cut (by rw [List.length_map, List.length_drop]; omega) 1 (by omega)
              obtain ⟨vf, hvf⟩ : ∃ v, v = (if c6 = 1 then a6 else a6.map fun (y : Addr) => y.add (1 * 5)) := ⟨_, rfl⟩
              rw [← hvf] at H hit2
              rw [List.drop_one, ← List.map_tail, List.tail_drop, show n + 1 - j - 1 = n + 1 - (j + 1) by omega] at hit2
              rw [show n + 1 - j - 1 = n + 1 - (j + 1) by omega] at H
              refine e_st H rfl rfl (x_store H rfl rfl rfl (st_cell rfl rfl Try.sizeOf133 (T2.frozen _) (T2.isSome 1 (by simp [rfCells])))) ?_
              have RBn : Blk (wq.setCell ⟨g2, 1, none⟩ (.slice vf (n + 1 - (j + 1)) (c6 - 1))) g2 135 (rfCells (r.add x) (.slice vf (n + 1 - (j + 1)) (c6 - 1))) := T2.set_ 1 _
              replace E := E.st hlo2 1 (.slice vf (n + 1 - (j + 1)) (c6 - 1))
              replace D4 := D4.far hne24.symm (o := 1) (.slice vf (n + 1 - (j + 1)) (c6 - 1))
              replace hit2 := hit2.frm' (g := g2) (o := 1) (v' := .slice vf (n + 1 - (j + 1)) (c6 - 1)) (hit2.ne2 T2)
              refine e_nil (hR.out _ _ ?_)
              clear hR R
              refine hK12 _ _ ?_
              clear hK12 K12
              refine e_region (fun R hR => ?_)
              refine e_op H rfl rfl (by decide) (x_move H rfl rfl) ?_
              clear H a; intro a H
              refine e_op H rfl rfl (by decide) (x_binI H rfl rfl rfl (b_add (z := ((j + 1 : Nat) : Int)) (by rw [IntKind.wrap_i64]; omega))) ?_
              clear H a; intro a H
              refine e_op H rfl rfl (by decide) (x_assign H rfl rfl) ?_
              clear H a; intro a H
              refine e_nil (hR.out _ _ ?_)
              clear hR R
              refine ⟨n + 1 - (j + 1), by omega, j + 1, vf, c6 - 1, by omega, rfl, ?_, H.sub ⟨rfl, rfl, rfl, rfl, trivial⟩, RBn, D4, hit2, E⟩
              rw [← hjD]
              conv => rhs; rw [hdj, dropR, ← hdj, if_pos (.inl hcu), hsz, Nat.add_sub_cancel_left]
              simp only
              omega
            · skip
              have hfin := hbf ht
              refine wp_exit ?_
              refine t_exit ?_
              refine t_exit ?_
              refine b_hit ?_
              clear hK10 K10
              refine hK9 _ _ ?_
              clear hK9 K9
              refine wp_seq_k (fun K13 hK13 => ?_)
              refine wp_block ?_
              refine wp_loop_ghost (fun m a w => ∃ j a6 c6, j ≤ n + 1 ∧ m = n + 1 - j ∧ j + (dropR r.cap (sizes (L.drop j)) (L.drop j)).1 = D ∧ (L.drop j = [] ∨ (sizes (L.drop j) : Int) ≤ r.cap) ∧ Has a 85 [(2, .pointer (some ⟨g2, 0, none⟩)), (3, .pointer (some ⟨g3, 0, none⟩)), (4, .pointer (some ⟨g4, 0, none⟩)), (7, .int .i64 (j : Int))] ∧ Blk w g2 135 (rfCells (r.add x) (.slice a6 (n + 1 - j) c6)) ∧ Blk w g4 135 zero135 ∧ It w w0.heap.size (.slice a6 (n + 1 - j) c6) ((L.drop j).map toldOf) ∧ Ext w0 w) (n + 1 - j) ?_ ?_
              · skip
                exact ⟨j, a6, c6, hj, rfl, hjD, hfin, H.sub ⟨rfl, rfl, rfl, rfl, trivial⟩, T2, D4, hit, E⟩
              · skip
                clear H T2 D4 hit E hjD hfin
                intro m a wq hI
                obtain ⟨j, a6, c6, hj, rfl, hjD, hfit, H, T2, D4, hit, E⟩ := hI
                skip
                refine wp_seq_k (fun K14 hK14 => ?_)
                refine wp_seq_k (fun K15 hK15 => ?_)
                refine Code.wp_mono (Q := fun e a w => e = Exit.normal ∧ ∃ b, Has a 85 [(2, .pointer (some ⟨g2, 0, none⟩)), (3, .pointer (some ⟨g3, 0, none⟩)), (4, .pointer (some ⟨g4, 0, none⟩)), (7, .int .i64 (j : Int)), (76, .bool b)] ∧ (b = true → j < n + 1 ∧ ∃ p, L[j]? = some p ∧ p.what = 2) ∧ (b = false → (dropR r.cap (sizes (L.drop j)) (L.drop j)).1 = 0) ∧ w = wq) (fun e a w hM => ?_) ?_
                · skip
                  clear H
                  obtain ⟨rfl, b, H, hbt, hbf, hww⟩ := hM
                  rw [hww]
                  clear hww w
                  refine hK15 _ _ ?_
                  clear hK15 K15
                  refine c_split H rfl (fun ht => ?_) (fun ht => ?_)
                  · skip
                    obtain ⟨hjl, p, hp, hwp⟩ := hbt ht
                    have hdj : L.drop j = p :: L.drop (j + 1) := by
                      obtain ⟨hl, e⟩ := List.getElem?_eq_some_iff.1 hp
                      rw [List.drop_eq_getElem_cons hl, e]
                    have hsz : sizes (L.drop j) = p.size + sizes (L.drop (j + 1)) := by rw [hdj]; unfold sizes; simp
                    refine wp_skip ?_
                    refine hK14 _ _ ?_
                    clear hK14 K14
                    refine wp_block ?_
                    refine wp_seq_k (fun K16 hK16 => ?_)
                    refine e_region (fun R hR => ?_)
                    refine e_op H rfl rfl (by decide) (x_fieldAddr H rfl rfl (fa135_1 _ _)) ?_
                    clear H a; intro a H
                    refine e_op H rfl rfl (by decide) (x_load H rfl rfl (l_cell Try.isAgg133 (T2.at_ (i := 1) rfl))) ?_
                    clear H a; intro a H
                    refine e_op H rfl rfl (by decide) (x_slice H rfl rfl rfl rfl (sl_loN (lo := 1) under133 size141 rfl (by omega))) ?_
                    clear H a; intro a H
                    refine e_op H rfl rfl (by decide) (x_fieldAddr H rfl rfl (fa135_1 _ _)) ?_
                    clear H a; intro a H
                    have hit2 := hit.cut (by rw [List.length_map, List.length_drop]; omega) 1 (by omega)
                    obtain ⟨vf, hvf⟩ : ∃ v, v = (if c6 = 1 then a6 else a6.map fun (y : Addr) => y.add (1 * 5)) := ⟨_, rfl⟩
                    rw [← hvf] at H hit2
                    rw [List.drop_one, ← List.map_tail, List.tail_drop, show n + 1 - j - 1 = n + 1 - (j + 1) by omega] at hit2
                    rw [show n + 1 - j - 1 = n + 1 - (j + 1) by omega] at H
                    refine e_st H rfl rfl (x_store H rfl rfl rfl (st_cell rfl rfl Try.sizeOf133 (T2.frozen _) (T2.isSome 1 (by simp [rfCells])))) ?_
                    have RBn : Blk (wq.setCell ⟨g2, 1, none⟩ (.slice vf (n + 1 - (j + 1)) (c6 - 1))) g2 135 (rfCells (r.add x) (.slice vf (n + 1 - (j + 1)) (c6 - 1))) := T2.set_ 1 _
                    replace E := E.st hlo2 1 (.slice vf (n + 1 - (j + 1)) (c6 - 1))
                    replace D4 := D4.far hne24.symm (o := 1) (.slice vf (n + 1 - (j + 1)) (c6 - 1))
                    replace hit2 := hit2.frm' (g := g2) (o := 1) (v' := .slice vf (n + 1 - (j + 1)) (c6 - 1)) (hit2.ne2 T2)
                    refine e_nil (hR.out _ _ ?_)
                    clear hR R
                    refine hK16 _ _ ?_
                    clear hK16 K16
                    refine e_region (fun R hR => ?_)
                    refine e_op H rfl rfl (by decide) (x_move H rfl rfl) ?_
                    clear H a; intro a H
                    refine e_op H rfl rfl (by decide) (x_binI H rfl rfl rfl (b_add (z := ((j + 1 : Nat) : Int)) (by rw [IntKind.wrap_i64]; omega))) ?_
                    clear H a; intro a H
                    refine e_op H rfl rfl (by decide) (x_assign H rfl rfl) ?_
                    clear H a; intro a H
                    refine e_nil (hR.out _ _ ?_)
                    clear hR R
                    refine ⟨n + 1 - (j + 1), by omega, j + 1, vf, c6 - 1, by omega, rfl, ?_, .inr ?_, H.sub ⟨rfl, rfl, rfl, rfl, trivial⟩, RBn, D4, hit2, E⟩
                    · rw [← hjD]
                      conv => rhs; rw [hdj, dropR, ← hdj, if_pos (.inr hwp), hsz, Nat.add_sub_cancel_left]
                      simp only
                      omega
                    · have hle : (sizes (L.drop j) : Int) ≤ r.cap := hfit.resolve_left (by rw [hdj]; simp)
                      omega
                  · skip
                    have hz := hbf ht
                    rw [hz, Nat.add_zero] at hjD
                    refine wp_exit ?_
                    refine t_exit ?_
                    refine t_exit ?_
                    refine b_hit ?_
                    clear hK14 K14
                    refine hK13 _ _ ?_
                    clear hK13 K13
                    refine wp_seq_k (fun K17 hK17 => ?_)
                    refine e_region (fun R hR => ?_)
                    refine e_op H rfl rfl (by decide) (x_load H rfl rfl (l_part (cs := rfCells (r.add x) (.slice a6 (n + 1 - j) c6)) isAgg135 size135 (fun j v hv => by rw [T2.cell, Nat.zero_add]; exact hv))) ?_
                    clear H a; intro a H
                    refine e_op H rfl rfl (by decide) (x_move H rfl rfl) ?_
                    clear H a; intro a H
                    have D40 := D4
                    refine e_st H rfl rfl (x_store H rfl rfl rfl (st_row D4 (by kernel_rfl) (by rfl) (by simp [Value.oneCell', rfCells]))) ?_
                    replace D4 := D4.row (rfCells (r.add x) (.slice a6 (n + 1 - j) c6))
                    replace hit := Sr.heap hit (w' := wq.setRow g4 (rfCells (r.add x) (.slice a6 (n + 1 - j) c6)).toArray) (fun k hk => setRow_other wq g4 k _ (hit.ne4 D40 k hk))
                    replace E := E.row_ hlo4 (rfCells (r.add x) (.slice a6 (n + 1 - j) c6)).toArray
                    refine e_op H rfl rfl (by decide) (x_assign H rfl rfl) ?_
                    clear H a; intro a H
                    refine e_op H rfl rfl (by decide) (x_assign H rfl rfl) ?_
                    clear H a; intro a H
                    refine e_nil (hR.out _ _ ?_)
                    clear hR R
                    refine hK17 _ _ ?_
                    clear hK17 K17
                    refine wp_ret ?_
                    have hused : r.used + x.size = sizes L := by rw [hL, sizes_app, hus]
                    have hd1 : (dropR r.cap (r.used + x.size) (r.list ++ [x])).1 = j := by rw [hused, ← hL, ← hD, hjD]
                    have hadd : r.put x = (r.add x, j, 0) := by unfold Rg.put; rw [if_pos hcode0, hd1]
                    have hlist : (r.add x).list = L.drop j := by show (r.list ++ [x]).drop _ = _; rw [hd1, hL]
                    have hlen : (r.add x).list.length = n + 1 - j := by rw [hlist, List.length_drop]; omega
                    refine retctt H rfl rfl rfl rfl D4 Try.underlying135 rfl (by kernel_rfl) ⟨a6, c6, ?_, ?_, E⟩
                    · rw [hadd]
                      simp only [hlen]
                      rfl
                    · rw [hadd]
                      simp only [hlen]
                      rw [hlist]
                      exact hit
                · skip
                  by_cases hemp : j = n + 1
                  · skip
                    skip
                    refine e_region (fun R hR => ?_)
                    refine e_op H rfl rfl (by decide) (x_fieldAddr H rfl rfl (fa135_1 _ _)) ?_
                    clear H a; intro a H
                    refine e_op H rfl rfl (by decide) (x_load H rfl rfl (l_cell Try.isAgg133 (T2.at_ (i := 1) rfl))) ?_
                    clear H a; intro a H
                    refine e_op H rfl rfl (by decide) (x_builtin H rfl rfl (fun cs => len_sl under133)) ?_
                    clear H a; intro a H
                    refine e_op H rfl rfl (by decide) (x_binI H rfl rfl rfl (b_gtr (b := false) (dec_f (by omega)))) ?_
                    clear H a; intro a H
                    refine e_op H rfl rfl (by decide) (x_move H rfl rfl) ?_
                    clear H a; intro a H
                    refine e_skip H (wanted_false H rfl rfl rfl rfl) rfl (by decide) ?_
                    clear H a; intro a H
                    refine e_skip H (wanted_false H rfl rfl rfl rfl) rfl (by decide) ?_
                    clear H a; intro a H
                    refine e_skip H (wanted_false H rfl rfl rfl rfl) rfl (by decide) ?_
                    clear H a; intro a H
                    refine e_skip H (wanted_false H rfl rfl rfl rfl) rfl (by decide) ?_
                    clear H a; intro a H
                    refine e_skip H (wanted_false H rfl rfl rfl rfl) rfl (by decide) ?_
                    clear H a; intro a H
                    refine e_op H rfl rfl (by decide) (x_pickF H rfl rfl rfl) ?_
                    clear H a; intro a H
                    refine e_nil (hR.out _ _ ?_)
                    clear hR R
                    exact ⟨rfl, false, H.sub ⟨rfl, rfl, rfl, rfl, rfl, trivial⟩, (fun h => by cases h), (fun _ => by rw [List.drop_of_length_le (by omega)]; rfl), rfl⟩
                  · skip
                    obtain ⟨p, hp⟩ : ∃ p, L[j]? = some p := ⟨_, List.getElem?_eq_getElem (by omega)⟩
                    have hdj : L.drop j = p :: L.drop (j + 1) := by
                      obtain ⟨hl, e⟩ := List.getElem?_eq_some_iff.1 hp
                      rw [List.drop_eq_getElem_cons hl, e]
                    have hsz : sizes (L.drop j) = p.size + sizes (L.drop (j + 1)) := by rw [hdj]; unfold sizes; simp
                    obtain ⟨gh, oh, hah, hcl0⟩ := hit.at_ 0 (toldOf p) (by rw [hdj]; rfl)
                    subst hah
                    refine e_region (fun R hR => ?_)
                    refine e_op H rfl rfl (by decide) (x_fieldAddr H rfl rfl (fa135_1 _ _)) ?_
                    clear H a; intro a H
                    refine e_op H rfl rfl (by decide) (x_load H rfl rfl (l_cell Try.isAgg133 (T2.at_ (i := 1) rfl))) ?_
                    clear H a; intro a H
                    refine e_op H rfl rfl (by decide) (x_builtin H rfl rfl (fun cs => len_sl under133)) ?_
                    clear H a; intro a H
                    refine e_op H rfl rfl (by decide) (x_binI H rfl rfl rfl (b_gtr (b := true) (dec_t (by omega)))) ?_
                    clear H a; intro a H
                    refine e_op H rfl rfl (by decide) (x_move H rfl rfl) ?_
                    clear H a; intro a H
                    refine e_opg H (wanted_true H rfl rfl rfl rfl) rfl (by decide) (x_fieldAddr H rfl rfl (fa135_1 _ _)) ?_
                    clear H a; intro a H
                    refine e_opg H (wanted_true H rfl rfl rfl rfl) rfl (by decide) (x_load H rfl rfl (l_cell Try.isAgg133 (T2.at_ (i := 1) rfl))) ?_
                    clear H a; intro a H
                    refine e_opg H (wanted_true H rfl rfl rfl rfl) rfl (by decide) (x_indexAddr H rfl rfl rfl (i_slN (m := 0) under133 size141 rfl (by omega))) ?_
                    clear H a; intro a H
                    refine e_opg H (wanted_true H rfl rfl rfl rfl) rfl (by decide) (x_fieldAddr H rfl rfl (fa141o_1 _ _ _)) ?_
                    clear H a; intro a H
                    refine e_opg H (wanted_true H rfl rfl rfl rfl) rfl (by decide) (x_load H rfl rfl (l_cell Try.isAgg4 (hcl0 1 _ rfl))) ?_
                    clear H a; intro a H
                    refine e_op H rfl rfl (by decide) (x_pickT H rfl rfl rfl) ?_
                    clear H a; intro a H
                    refine e_nil (hR.out _ _ ?_)
                    clear hR R
                    refine ⟨rfl, _, H.sub ⟨rfl, rfl, rfl, rfl, rfl, trivial⟩, (fun h => ⟨by omega, p, hp, of_decide_eq_true h⟩), (fun h => ?_), rfl⟩
                    have h2 : ¬ p.what = 2 := of_decide_eq_false h
                    have hle : (sizes (L.drop j) : Int) ≤ r.cap := hfit.resolve_left (by rw [hdj]; simp)
                    rw [hdj, dropR, ← hdj, if_neg (by rintro (h | h); omega; exact h2 h)]
          · skip
            by_cases hemp : j = n + 1
            · skip
              skip
              skip
              refine g_start (fun w' => Ext wd w') (by kernel_rfl) (fun R hR => ?_)
              rw [← hwd]
              refine g_take 0 H rfl (wanted_none rfl) rfl (by decide) (by kernel_rfl) (by kernel_rfl) (by kernel_rfl) FSq (fun w' hSw => (x_fieldAddr H rfl rfl (fa135_1 _ _))) ?_
              clear H a; intro a H
              refine g_take 1 H rfl (wanted_none rfl) rfl (by decide) (by kernel_rfl) (by kernel_rfl) (by kernel_rfl) FSq (fun w' hSw => (x_load H rfl rfl (l_cell Try.isAgg133 ((T0.ext hSw).at_ (i := 1) rfl)))) ?_
              clear H a; intro a H
              refine g_take 2 H rfl (wanted_none rfl) rfl (by decide) (by kernel_rfl) (by kernel_rfl) (by kernel_rfl) FSq (fun w' hSw => (x_builtin H rfl rfl (fun cs => len_sl under133))) ?_
              clear H a; intro a H
              refine g_take 3 H rfl (wanted_none rfl) rfl (by decide) (by kernel_rfl) (by kernel_rfl) (by kernel_rfl) FSq (fun w' hSw => (x_binI H rfl rfl rfl (b_gtr (b := false) (dec_f (by omega))))) ?_
              clear H a; intro a H
              refine g_take 4 H rfl (wanted_none rfl) rfl (by decide) (by kernel_rfl) (by kernel_rfl) (by kernel_rfl) FSq (fun w' hSw => (x_move H rfl rfl)) ?_
              clear H a; intro a H
              refine g_skip 5 H rfl (wanted_false H rfl rfl rfl rfl) rfl (by decide) (by kernel_rfl) (by kernel_rfl) (by kernel_rfl) FSq ?_
              clear H a; intro a H
              refine g_skip 6 H rfl (wanted_false H rfl rfl rfl rfl) rfl (by decide) (by kernel_rfl) (by kernel_rfl) (by kernel_rfl) FSq ?_
              clear H a; intro a H
              refine g_skip 7 H rfl (wanted_false H rfl rfl rfl rfl) rfl (by decide) (by kernel_rfl) (by kernel_rfl) (by kernel_rfl) FSq ?_
              clear H a; intro a H
              refine g_skip 8 H rfl (wanted_false H rfl rfl rfl rfl) rfl (by decide) (by kernel_rfl) (by kernel_rfl) (by kernel_rfl) FSq ?_
              clear H a; intro a H
              refine g_skip 9 H rfl (wanted_false H rfl rfl rfl rfl) rfl (by decide) (by kernel_rfl) (by kernel_rfl) (by kernel_rfl) FSq ?_
              clear H a; intro a H
              refine g_take 10 H rfl (wanted_none rfl) rfl (by decide) (by kernel_rfl) (by kernel_rfl) (by kernel_rfl) FSq (fun w' hSw => (x_pickF H rfl rfl rfl)) ?_
              clear H a; intro a H
              refine g_done (by kernel_rfl) (hR.out _ _ ?_)
              clear hR R
              exact ⟨rfl, false, H.sub ⟨rfl, rfl, rfl, rfl, rfl, trivial⟩, (fun h => by cases h), (fun _ => .inl (List.drop_of_length_le (by omega))), T2, D4, hit, E⟩
            · skip
              skip
              skip
              refine g_start (fun w' => Ext wd w') (by kernel_rfl) (fun R hR => ?_)
              rw [← hwd]
              refine g_take 0 H rfl (wanted_none rfl) rfl (by decide) (by kernel_rfl) (by kernel_rfl) (by kernel_rfl) FSq (fun w' hSw => (x_fieldAddr H rfl rfl (fa135_1 _ _))) ?_
              clear H a; intro a H
              refine g_take 1 H rfl (wanted_none rfl) rfl (by decide) (by kernel_rfl) (by kernel_rfl) (by kernel_rfl) FSq (fun w' hSw => (x_load H rfl rfl (l_cell Try.isAgg133 ((T0.ext hSw).at_ (i := 1) rfl)))) ?_
              clear H a; intro a H
              refine g_take 2 H rfl (wanted_none rfl) rfl (by decide) (by kernel_rfl) (by kernel_rfl) (by kernel_rfl) FSq (fun w' hSw => (x_builtin H rfl rfl (fun cs => len_sl under133))) ?_
              clear H a; intro a H
              refine g_take 3 H rfl (wanted_none rfl) rfl (by decide) (by kernel_rfl) (by kernel_rfl) (by kernel_rfl) FSq (fun w' hSw => (x_binI H rfl rfl rfl (b_gtr (b := true) (dec_t (by omega))))) ?_
              clear H a; intro a H
              refine g_take 4 H rfl (wanted_none rfl) rfl (by decide) (by kernel_rfl) (by kernel_rfl) (by kernel_rfl) FSq (fun w' hSw => (x_move H rfl rfl)) ?_
              clear H a; intro a H
              refine g_take 5 H rfl (wanted_true H rfl rfl rfl rfl) rfl (by decide) (by kernel_rfl) (by kernel_rfl) (by kernel_rfl) FSq (fun w' hSw => (x_load H rfl rfl (l_part (cs := rfCells (r.add x) (.slice a6 (n + 1 - j) c6)) isAgg135 size135 (fun j v hv => by rw [(T0.ext hSw).cell, Nat.zero_add]; exact hv)))) ?_
              clear H a; intro a H
              refine g_take 7 H rfl (wanted_true H rfl rfl rfl rfl) rfl (by decide) (by kernel_rfl) (by kernel_rfl) (by kernel_rfl) FSq (fun w' hSw => (x_fieldAddr H rfl rfl (fa135_0 _ _))) ?_
              clear H a; intro a H
              refine g_take 8 H rfl (wanted_true H rfl rfl rfl rfl) rfl (by decide) (by kernel_rfl) (by kernel_rfl) (by kernel_rfl) FSq (fun w' hSw => (x_load H rfl rfl (l_cell Try.isAgg3 ((T0.ext hSw).at_ (i := 0) rfl)))) ?_
              clear H a; intro a H
              refine g_call 6 H rfl (by kernel_rfl) (wanted_true H rfl rfl rfl rfl) rfl (by decide) rfl rfl (Try.call94 _) (usedRef_any (r.add x) w0.heap.size a6 (n + 1 - j) c6 ((L.drop j).map toldOf) wd hit (by rw [List.length_map, List.length_drop]; omega) (told_le L hLw j) (by omega)) ?_
              clear H a
              rintro e we ⟨rfl, Fe⟩
              replace FSq := FSq.tr Fe
              replace T2 := T2.ext Fe
              replace D4 := D4.ext Fe
              replace hit := hit.ext Fe
              replace E := E.tr Fe
              refine ⟨_, rfl, FSq, fun a H => ?_⟩
              rw [sizes_told] at H
              refine g_take 9 H rfl (wanted_true H rfl rfl rfl rfl) rfl (by decide) (by kernel_rfl) (by kernel_rfl) (by kernel_rfl) FSq (fun w' hSw => (x_binI H rfl rfl rfl (b_gtr (b := (decide (r.cap < (sizes (L.drop j) : Int)))) (rfl)))) ?_
              clear H a; intro a H
              refine g_take 10 H rfl (wanted_none rfl) rfl (by decide) (by kernel_rfl) (by kernel_rfl) (by kernel_rfl) FSq (fun w' hSw => (x_pickT H rfl rfl rfl)) ?_
              clear H a; intro a H
              refine g_done (by kernel_rfl) (hR.out _ _ ?_)
              clear hR R
              exact ⟨rfl, _, H.sub ⟨rfl, rfl, rfl, rfl, rfl, trivial⟩, (fun h => ⟨by omega, of_decide_eq_true h⟩), (fun h => .inr (by have := of_decide_eq_false h; omega)), T2, D4, hit, E⟩
      · skip
        refine g_start (fun w' => Frm [g2] wd0 w') (by kernel_rfl) (fun R hR => ?_)
        rw [← hwc]
        refine g_take 1 H rfl (wanted_none rfl) rfl (by decide) (by kernel_rfl) (by kernel_rfl) (by kernel_rfl) FSq (fun w' hSw => (x_fieldAddr H rfl rfl (fa135_1 _ _))) ?_
        clear H a; intro a H
        refine g_take 4 H rfl (wanted_none rfl) rfl (by decide) (by kernel_rfl) (by kernel_rfl) (by kernel_rfl) FSq (fun w' hSw => (x_load H rfl rfl (l_part (cs := (toldOf x).cells) isAgg141 size141 (fun j v hv => by rw [(T30.frm hSw (by simpa using hne23.symm)).cell, Nat.zero_add]; exact hv)))) ?_
        clear H a; intro a H
        refine g_three 0 2 5 H (by kernel_rfl) rfl (wanted_none rfl) rfl (by decide) (x_buildSlice H rfl rfl (bs133e _)) (FSq.al _) rfl (wanted_none rfl) rfl (by decide) (x_load H rfl rfl (l_cell Try.isAgg133 (T2.at_ (i := 1) rfl))) (FSq) rfl (wanted_none rfl) rfl (by decide) (x_buildSlice H rfl rfl (bs133 (toldOf x) _)) (FSq.al _) ?_ ?_ ?_
        · skip
          clear H a; intro a H
          have O0 : (wc.alloc (.cells #[] 141)).ownsRow wd0.heap.size 141 5 (.slice (some ⟨wc.heap.size, 0, none⟩) 0 0) 0 [] := ⟨rfl, .inr ⟨wc.heap.size, 0, #[], rfl, FSq.size, heap_alloc_new wc _, Nat.le_refl _, by unfold maxLen; omega, rfl, rfl⟩⟩
          have Ea := (Ext.refl wc).al (.cells #[] 141)
          replace FSq := FSq.al (.cells #[] 141)
          replace T2 := T2.ext Ea
          replace T3 := T3.ext Ea
          replace D4 := D4.ext Ea
          replace E := E.tr Ea
          try replace hit := hit.ext Ea
          try replace Db := Db.ext Ea
          obtain ⟨gE, hgE⟩ : ∃ g, g = wc.heap.size := ⟨_, rfl⟩
          rw [← hgE] at H O0
          clear hgE
          generalize wc.alloc (.cells #[] 141) = wc at *
          refine g_two 2 5 H (by kernel_rfl) rfl (wanted_none rfl) rfl (by decide) (x_load H rfl rfl (l_cell Try.isAgg133 (T2.at_ (i := 1) rfl))) (FSq) rfl (wanted_none rfl) rfl (by decide) (x_buildSlice H rfl rfl (bs133 (toldOf x) _)) (FSq.al _) ?_ ?_
          · skip
            clear H a; intro a H
            obtain ⟨a3, c3, wn, hr3, O3, G3⟩ := run_copyIts O0 hit (by omega) FSq.size
            have hgEl := ((Sr.of O0).blk gE rfl).1
            have FSn : Frm [g2] wd0 wn := FSq.grown G3 (fun k hk => by cases hk; exact .inr hgEl)
            refine g_two 3 5 H (by kernel_rfl) rfl (wanted_none rfl) rfl (by decide) (x_builtin H rfl rfl (fun cs => bi_app hr3)) (FSn) rfl (wanted_none rfl) rfl (by decide) (x_buildSlice H rfl rfl (bs133 (toldOf x) _)) (FSq.al _) ?_ ?_
            · skip
              clear H a; intro a H
              replace FSq := FSn
              replace T2 := T2.grown G3 (by simp only [ne_eq, Option.some.injEq]; omega)
              replace T3 := T3.grown G3 (by simp only [ne_eq, Option.some.injEq]; omega)
              replace D4 := D4.grown G3 (by simp only [ne_eq, Option.some.injEq]; omega)
              replace E := E.grown G3 (fun k hk => by cases hk; omega)
              try replace Db := Db.grown G3 (by
                simp only [ne_eq, Option.some.injEq]
                rintro rfl
                rcases O0.2 with ⟨h, _⟩ | ⟨g9, cap9, cur9, h9, _, hh9, _, _, hs9, _⟩
                · cases h
                · simp only [Value.slice.injEq, Option.some.injEq, Addr.mk.injEq] at h9
                  obtain ⟨⟨rfl, _⟩, _, rfl⟩ := h9
                  unfold Blk at Db
                  rw [hh9] at Db
                  simp only [Option.some.injEq, Obj.cells.injEq] at Db
                  rw [Db.1] at hs9
                  simp [Itm.cells] at hs9)
              clear O0 hit G3 hr3 FSn
              generalize wn = wc at *
              refine g_op 5 H rfl (by kernel_rfl) (wanted_none rfl) rfl (by decide) (x_buildSlice H rfl rfl (bs133 (toldOf x) _)) (FSq.al _) ?_
              clear H a; intro a H
              have Db := Blk.new wc 141 (toldOf x).cells
              have Ea := (Ext.refl wc).al (.cells (toldOf x).cells.toArray 141)
              replace FSq := FSq.al (.cells (toldOf x).cells.toArray 141)
              replace T2 := T2.ext Ea
              replace T3 := T3.ext Ea
              replace D4 := D4.ext Ea
              replace E := E.tr Ea
              try replace hit := hit.ext Ea
              try replace O0 := row_al O0 (.cells (toldOf x).cells.toArray 141)
              try replace O3 := row_al O3 (.cells (toldOf x).cells.toArray 141)
              obtain ⟨gI, hgI⟩ : ∃ g, g = wc.heap.size := ⟨_, rfl⟩
              rw [← hgI] at H Db
              clear hgI
              generalize wc.alloc (.cells (toldOf x).cells.toArray 141) = wc at *
              obtain ⟨g6, c6, wn, hr6, O6, G6⟩ := run_appE el133 wc 133 wd0.heap.size a3 n c3 (itsC (r.list.map toldOf)) gI 1 1 (toldOf x).cells O3 rfl (fun j u hu => by rw [Db.cell]; exact hu) (itm_one _) (by omega) (by omega) FSq.size (by omega)
              have hown3 := fun k hk => ((Sr.of O3).blk k hk).1
              have FSn : Frm [g2] wd0 wn := FSq.grown G6 (fun k hk => .inr (hown3 k hk))
              refine g_op 6 H rfl (by kernel_rfl) (wanted_none rfl) rfl (by decide) (x_builtin H rfl rfl (fun cs => bi_app hr6)) (FSn) ?_
              clear H a; intro a H
              replace FSq := FSn
              replace T2 := T2.grown G6 (fun e => by have := hown3 g2 e.symm; omega)
              replace D4 := D4.grown G6 (fun e => by have := hown3 g4 e.symm; omega)
              replace E := E.grown G6 (fun k hk => Nat.le_trans hE0 (hown3 k hk))
              clear O3 Db T3 G6 hr6 FSn hown3
              generalize wn = wc at *
              refine g_take 7 H rfl (wanted_none rfl) rfl (by decide) (by kernel_rfl) (by kernel_rfl) (by kernel_rfl) FSq (fun w' hSw => (x_fieldAddr H rfl rfl (fa135_1 _ _))) ?_
              clear H a; intro a H
              refine g_st 8 H rfl (by kernel_rfl) (wanted_none rfl) rfl (x_store H rfl rfl rfl (st_cell rfl rfl Try.sizeOf133 (T2.frozen _) (T2.isSome 1 (by simp [rfCells])))) (FSq.st g2 1 _ (.inl (by simp))) ?_
              have RBn : Blk (wc.setCell ⟨g2, 1, none⟩ (.slice (some ⟨g6, 0, none⟩) (n + 1) c6)) g2 135 (rfCells (r.add x) (.slice (some ⟨g6, 0, none⟩) (n + 1) c6)) := T2.set_ 1 _
              replace E := E.st hlo2 1 (.slice (some ⟨g6, 0, none⟩) (n + 1) c6)
              replace D4 := D4.far hne24.symm (o := 1) (.slice (some ⟨g6, 0, none⟩) (n + 1) c6)
              have hO6 := ((Sr.of O6).blk g6 rfl).1
              replace O6 := row_heap O6 (w' := wc.setCell ⟨g2, 1, none⟩ (.slice (some ⟨g6, 0, none⟩) (n + 1) c6)) (fun k hk => Below.heap_setCells_ wc g2 1 _ k (by have e : g6 = k := Option.some.inj hk; omega))
              clear T2
              have T2 := RBn
              clear RBn
              refine g_done (by kernel_rfl) (hR.out _ _ ?_)
              clear hR R
              refine ⟨rfl, some ⟨g6, 0, none⟩, c6, H.sub ⟨rfl, rfl, rfl, trivial⟩, T2, D4, ?_, E⟩
              have hs := (Sr.of O6).mono hE0
              unfold It
              rw [List.length_map, List.length_append, hrl, List.map_append, show itsC (List.map toldOf r.list ++ List.map toldOf [x]) = itsC (List.map toldOf r.list) ++ (toldOf x).cells by unfold itsC; simp]
              exact hs
            · skip
              clear H a; intro a H
              have Db := Blk.new wc 141 (toldOf x).cells
              have Ea := (Ext.refl wc).al (.cells (toldOf x).cells.toArray 141)
              replace FSq := FSq.al (.cells (toldOf x).cells.toArray 141)
              replace T2 := T2.ext Ea
              replace T3 := T3.ext Ea
              replace D4 := D4.ext Ea
              replace E := E.tr Ea
              try replace hit := hit.ext Ea
              try replace O0 := row_al O0 (.cells (toldOf x).cells.toArray 141)
              try replace O3 := row_al O3 (.cells (toldOf x).cells.toArray 141)
              obtain ⟨gI, hgI⟩ : ∃ g, g = wc.heap.size := ⟨_, rfl⟩
              rw [← hgI] at H Db
              clear hgI
              generalize wc.alloc (.cells (toldOf x).cells.toArray 141) = wc at *
              obtain ⟨a3, c3, wn, hr3, O3, G3⟩ := run_copyIts O0 hit (by omega) FSq.size
              have hgEl := ((Sr.of O0).blk gE rfl).1
              have FSn : Frm [g2] wd0 wn := FSq.grown G3 (fun k hk => by cases hk; exact .inr hgEl)
              refine g_op 3 H rfl (by kernel_rfl) (wanted_none rfl) rfl (by decide) (x_builtin H rfl rfl (fun cs => bi_app hr3)) (FSn) ?_
              clear H a; intro a H
              replace FSq := FSn
              replace T2 := T2.grown G3 (by simp only [ne_eq, Option.some.injEq]; omega)
              replace T3 := T3.grown G3 (by simp only [ne_eq, Option.some.injEq]; omega)
              replace D4 := D4.grown G3 (by simp only [ne_eq, Option.some.injEq]; omega)
              replace E := E.grown G3 (fun k hk => by cases hk; omega)
              try replace Db := Db.grown G3 (by
                simp only [ne_eq, Option.some.injEq]
                rintro rfl
                rcases O0.2 with ⟨h, _⟩ | ⟨g9, cap9, cur9, h9, _, hh9, _, _, hs9, _⟩
                · cases h
                · simp only [Value.slice.injEq, Option.some.injEq, Addr.mk.injEq] at h9
                  obtain ⟨⟨rfl, _⟩, _, rfl⟩ := h9
                  unfold Blk at Db
                  rw [hh9] at Db
                  simp only [Option.some.injEq, Obj.cells.injEq] at Db
                  rw [Db.1] at hs9
                  simp [Itm.cells] at hs9)
              clear O0 hit G3 hr3 FSn
              generalize wn = wc at *
              obtain ⟨g6, c6, wn, hr6, O6, G6⟩ := run_appE el133 wc 133 wd0.heap.size a3 n c3 (itsC (r.list.map toldOf)) gI 1 1 (toldOf x).cells O3 rfl (fun j u hu => by rw [Db.cell]; exact hu) (itm_one _) (by omega) (by omega) FSq.size (by omega)
              have hown3 := fun k hk => ((Sr.of O3).blk k hk).1
              have FSn : Frm [g2] wd0 wn := FSq.grown G6 (fun k hk => .inr (hown3 k hk))
              refine g_op 6 H rfl (by kernel_rfl) (wanted_none rfl) rfl (by decide) (x_builtin H rfl rfl (fun cs => bi_app hr6)) (FSn) ?_
              clear H a; intro a H
              replace FSq := FSn
              replace T2 := T2.grown G6 (fun e => by have := hown3 g2 e.symm; omega)
              replace D4 := D4.grown G6 (fun e => by have := hown3 g4 e.symm; omega)
              replace E := E.grown G6 (fun k hk => Nat.le_trans hE0 (hown3 k hk))
              clear O3 Db T3 G6 hr6 FSn hown3
              generalize wn = wc at *
              refine g_take 7 H rfl (wanted_none rfl) rfl (by decide) (by kernel_rfl) (by kernel_rfl) (by kernel_rfl) FSq (fun w' hSw => (x_fieldAddr H rfl rfl (fa135_1 _ _))) ?_
              clear H a; intro a H
              refine g_st 8 H rfl (by kernel_rfl) (wanted_none rfl) rfl (x_store H rfl rfl rfl (st_cell rfl rfl Try.sizeOf133 (T2.frozen _) (T2.isSome 1 (by simp [rfCells])))) (FSq.st g2 1 _ (.inl (by simp))) ?_
              have RBn : Blk (wc.setCell ⟨g2, 1, none⟩ (.slice (some ⟨g6, 0, none⟩) (n + 1) c6)) g2 135 (rfCells (r.add x) (.slice (some ⟨g6, 0, none⟩) (n + 1) c6)) := T2.set_ 1 _
              replace E := E.st hlo2 1 (.slice (some ⟨g6, 0, none⟩) (n + 1) c6)
              replace D4 := D4.far hne24.symm (o := 1) (.slice (some ⟨g6, 0, none⟩) (n + 1) c6)
              have hO6 := ((Sr.of O6).blk g6 rfl).1
              replace O6 := row_heap O6 (w' := wc.setCell ⟨g2, 1, none⟩ (.slice (some ⟨g6, 0, none⟩) (n + 1) c6)) (fun k hk => Below.heap_setCells_ wc g2 1 _ k (by have e : g6 = k := Option.some.inj hk; omega))
              clear T2
              have T2 := RBn
              clear RBn
              refine g_done (by kernel_rfl) (hR.out _ _ ?_)
              clear hR R
              refine ⟨rfl, some ⟨g6, 0, none⟩, c6, H.sub ⟨rfl, rfl, rfl, trivial⟩, T2, D4, ?_, E⟩
              have hs := (Sr.of O6).mono hE0
              unfold It
              rw [List.length_map, List.length_append, hrl, List.map_append, show itsC (List.map toldOf r.list ++ List.map toldOf [x]) = itsC (List.map toldOf r.list) ++ (toldOf x).cells by unfold itsC; simp]
              exact hs
          · skip
            clear H a; intro a H
            have Db := Blk.new wc 141 (toldOf x).cells
            have Ea := (Ext.refl wc).al (.cells (toldOf x).cells.toArray 141)
            replace FSq := FSq.al (.cells (toldOf x).cells.toArray 141)
            replace T2 := T2.ext Ea
            replace T3 := T3.ext Ea
            replace D4 := D4.ext Ea
            replace E := E.tr Ea
            try replace hit := hit.ext Ea
            try replace O0 := row_al O0 (.cells (toldOf x).cells.toArray 141)
            try replace O3 := row_al O3 (.cells (toldOf x).cells.toArray 141)
            obtain ⟨gI, hgI⟩ : ∃ g, g = wc.heap.size := ⟨_, rfl⟩
            rw [← hgI] at H Db
            clear hgI
            generalize wc.alloc (.cells (toldOf x).cells.toArray 141) = wc at *
            refine g_op 2 H rfl (by kernel_rfl) (wanted_none rfl) rfl (by decide) (x_load H rfl rfl (l_cell Try.isAgg133 (T2.at_ (i := 1) rfl))) (FSq) ?_
            clear H a; intro a H
            obtain ⟨a3, c3, wn, hr3, O3, G3⟩ := run_copyIts O0 hit (by omega) FSq.size
            have hgEl := ((Sr.of O0).blk gE rfl).1
            have FSn : Frm [g2] wd0 wn := FSq.grown G3 (fun k hk => by cases hk; exact .inr hgEl)
            refine g_op 3 H rfl (by kernel_rfl) (wanted_none rfl) rfl (by decide) (x_builtin H rfl rfl (fun cs => bi_app hr3)) (FSn) ?_
            clear H a; intro a H
            replace FSq := FSn
            replace T2 := T2.grown G3 (by simp only [ne_eq, Option.some.injEq]; omega)
            replace T3 := T3.grown G3 (by simp only [ne_eq, Option.some.injEq]; omega)
            replace D4 := D4.grown G3 (by simp only [ne_eq, Option.some.injEq]; omega)
            replace E := E.grown G3 (fun k hk => by cases hk; omega)
            try replace Db := Db.grown G3 (by
              simp only [ne_eq, Option.some.injEq]
              rintro rfl
              rcases O0.2 with ⟨h, _⟩ | ⟨g9, cap9, cur9, h9, _, hh9, _, _, hs9, _⟩
              · cases h
              · simp only [Value.slice.injEq, Option.some.injEq, Addr.mk.injEq] at h9
                obtain ⟨⟨rfl, _⟩, _, rfl⟩ := h9
                unfold Blk at Db
                rw [hh9] at Db
                simp only [Option.some.injEq, Obj.cells.injEq] at Db
                rw [Db.1] at hs9
                simp [Itm.cells] at hs9)
            clear O0 hit G3 hr3 FSn
            generalize wn = wc at *
            obtain ⟨g6, c6, wn, hr6, O6, G6⟩ := run_appE el133 wc 133 wd0.heap.size a3 n c3 (itsC (r.list.map toldOf)) gI 1 1 (toldOf x).cells O3 rfl (fun j u hu => by rw [Db.cell]; exact hu) (itm_one _) (by omega) (by omega) FSq.size (by omega)
            have hown3 := fun k hk => ((Sr.of O3).blk k hk).1
            have FSn : Frm [g2] wd0 wn := FSq.grown G6 (fun k hk => .inr (hown3 k hk))
            refine g_op 6 H rfl (by kernel_rfl) (wanted_none rfl) rfl (by decide) (x_builtin H rfl rfl (fun cs => bi_app hr6)) (FSn) ?_
            clear H a; intro a H
            replace FSq := FSn
            replace T2 := T2.grown G6 (fun e => by have := hown3 g2 e.symm; omega)
            replace D4 := D4.grown G6 (fun e => by have := hown3 g4 e.symm; omega)
            replace E := E.grown G6 (fun k hk => Nat.le_trans hE0 (hown3 k hk))
            clear O3 Db T3 G6 hr6 FSn hown3
            generalize wn = wc at *
            refine g_take 7 H rfl (wanted_none rfl) rfl (by decide) (by kernel_rfl) (by kernel_rfl) (by kernel_rfl) FSq (fun w' hSw => (x_fieldAddr H rfl rfl (fa135_1 _ _))) ?_
            clear H a; intro a H
            refine g_st 8 H rfl (by kernel_rfl) (wanted_none rfl) rfl (x_store H rfl rfl rfl (st_cell rfl rfl Try.sizeOf133 (T2.frozen _) (T2.isSome 1 (by simp [rfCells])))) (FSq.st g2 1 _ (.inl (by simp))) ?_
            have RBn : Blk (wc.setCell ⟨g2, 1, none⟩ (.slice (some ⟨g6, 0, none⟩) (n + 1) c6)) g2 135 (rfCells (r.add x) (.slice (some ⟨g6, 0, none⟩) (n + 1) c6)) := T2.set_ 1 _
            replace E := E.st hlo2 1 (.slice (some ⟨g6, 0, none⟩) (n + 1) c6)
            replace D4 := D4.far hne24.symm (o := 1) (.slice (some ⟨g6, 0, none⟩) (n + 1) c6)
            have hO6 := ((Sr.of O6).blk g6 rfl).1
            replace O6 := row_heap O6 (w' := wc.setCell ⟨g2, 1, none⟩ (.slice (some ⟨g6, 0, none⟩) (n + 1) c6)) (fun k hk => Below.heap_setCells_ wc g2 1 _ k (by have e : g6 = k := Option.some.inj hk; omega))
            clear T2
            have T2 := RBn
            clear RBn
            refine g_done (by kernel_rfl) (hR.out _ _ ?_)
            clear hR R
            refine ⟨rfl, some ⟨g6, 0, none⟩, c6, H.sub ⟨rfl, rfl, rfl, trivial⟩, T2, D4, ?_, E⟩
            have hs := (Sr.of O6).mono hE0
            unfold It
            rw [List.length_map, List.length_append, hrl, List.map_append, show itsC (List.map toldOf r.list ++ List.map toldOf [x]) = itsC (List.map toldOf r.list) ++ (toldOf x).cells by unfold itsC; simp]
            exact hs
        · skip
          clear H a; intro a H
          refine g_two 0 5 H (by kernel_rfl) rfl (wanted_none rfl) rfl (by decide) (x_buildSlice H rfl rfl (bs133e _)) (FSq.al _) rfl (wanted_none rfl) rfl (by decide) (x_buildSlice H rfl rfl (bs133 (toldOf x) _)) (FSq.al _) ?_ ?_
          · skip
            clear H a; intro a H
            have O0 : (wc.alloc (.cells #[] 141)).ownsRow wd0.heap.size 141 5 (.slice (some ⟨wc.heap.size, 0, none⟩) 0 0) 0 [] := ⟨rfl, .inr ⟨wc.heap.size, 0, #[], rfl, FSq.size, heap_alloc_new wc _, Nat.le_refl _, by unfold maxLen; omega, rfl, rfl⟩⟩
            have Ea := (Ext.refl wc).al (.cells #[] 141)
            replace FSq := FSq.al (.cells #[] 141)
            replace T2 := T2.ext Ea
            replace T3 := T3.ext Ea
            replace D4 := D4.ext Ea
            replace E := E.tr Ea
            try replace hit := hit.ext Ea
            try replace Db := Db.ext Ea
            obtain ⟨gE, hgE⟩ : ∃ g, g = wc.heap.size := ⟨_, rfl⟩
            rw [← hgE] at H O0
            clear hgE
            generalize wc.alloc (.cells #[] 141) = wc at *
            obtain ⟨a3, c3, wn, hr3, O3, G3⟩ := run_copyIts O0 hit (by omega) FSq.size
            have hgEl := ((Sr.of O0).blk gE rfl).1
            have FSn : Frm [g2] wd0 wn := FSq.grown G3 (fun k hk => by cases hk; exact .inr hgEl)
            refine g_two 3 5 H (by kernel_rfl) rfl (wanted_none rfl) rfl (by decide) (x_builtin H rfl rfl (fun cs => bi_app hr3)) (FSn) rfl (wanted_none rfl) rfl (by decide) (x_buildSlice H rfl rfl (bs133 (toldOf x) _)) (FSq.al _) ?_ ?_
            · skip
              clear H a; intro a H
              replace FSq := FSn
              replace T2 := T2.grown G3 (by simp only [ne_eq, Option.some.injEq]; omega)
              replace T3 := T3.grown G3 (by simp only [ne_eq, Option.some.injEq]; omega)
              replace D4 := D4.grown G3 (by simp only [ne_eq, Option.some.injEq]; omega)
              replace E := E.grown G3 (fun k hk => by cases hk; omega)
              try replace Db := Db.grown G3 (by
                simp only [ne_eq, Option.some.injEq]
                rintro rfl
                rcases O0.2 with ⟨h, _⟩ | ⟨g9, cap9, cur9, h9, _, hh9, _, _, hs9, _⟩
                · cases h
                · simp only [Value.slice.injEq, Option.some.injEq, Addr.mk.injEq] at h9
                  obtain ⟨⟨rfl, _⟩, _, rfl⟩ := h9
                  unfold Blk at Db
                  rw [hh9] at Db
                  simp only [Option.some.injEq, Obj.cells.injEq] at Db
                  rw [Db.1] at hs9
                  simp [Itm.cells] at hs9)
              clear O0 hit G3 hr3 FSn
              generalize wn = wc at *
              refine g_op 5 H rfl (by kernel_rfl) (wanted_none rfl) rfl (by decide) (x_buildSlice H rfl rfl (bs133 (toldOf x) _)) (FSq.al _) ?_
              clear H a; intro a H
              have Db := Blk.new wc 141 (toldOf x).cells
              have Ea := (Ext.refl wc).al (.cells (toldOf x).cells.toArray 141)
              replace FSq := FSq.al (.cells (toldOf x).cells.toArray 141)
              replace T2 := T2.ext Ea
              replace T3 := T3.ext Ea
              replace D4 := D4.ext Ea
              replace E := E.tr Ea
              try replace hit := hit.ext Ea
              try replace O0 := row_al O0 (.cells (toldOf x).cells.toArray 141)
              try replace O3 := row_al O3 (.cells (toldOf x).cells.toArray 141)
              obtain ⟨gI, hgI⟩ : ∃ g, g = wc.heap.size := ⟨_, rfl⟩
              rw [← hgI] at H Db
              clear hgI
              generalize wc.alloc (.cells (toldOf x).cells.toArray 141) = wc at *
              obtain ⟨g6, c6, wn, hr6, O6, G6⟩ := run_appE el133 wc 133 wd0.heap.size a3 n c3 (itsC (r.list.map toldOf)) gI 1 1 (toldOf x).cells O3 rfl (fun j u hu => by rw [Db.cell]; exact hu) (itm_one _) (by omega) (by omega) FSq.size (by omega)
              have hown3 := fun k hk => ((Sr.of O3).blk k hk).1
              have FSn : Frm [g2] wd0 wn := FSq.grown G6 (fun k hk => .inr (hown3 k hk))
              refine g_op 6 H rfl (by kernel_rfl) (wanted_none rfl) rfl (by decide) (x_builtin H rfl rfl (fun cs => bi_app hr6)) (FSn) ?_
              clear H a; intro a H
              replace FSq := FSn
              replace T2 := T2.grown G6 (fun e => by have := hown3 g2 e.symm; omega)
              replace D4 := D4.grown G6 (fun e => by have := hown3 g4 e.symm; omega)
              replace E := E.grown G6 (fun k hk => Nat.le_trans hE0 (hown3 k hk))
              clear O3 Db T3 G6 hr6 FSn hown3
              generalize wn = wc at *
              refine g_take 7 H rfl (wanted_none rfl) rfl (by decide) (by kernel_rfl) (by kernel_rfl) (by kernel_rfl) FSq (fun w' hSw => (x_fieldAddr H rfl rfl (fa135_1 _ _))) ?_
              clear H a; intro a H
              refine g_st 8 H rfl (by kernel_rfl) (wanted_none rfl) rfl (x_store H rfl rfl rfl (st_cell rfl rfl Try.sizeOf133 (T2.frozen _) (T2.isSome 1 (by simp [rfCells])))) (FSq.st g2 1 _ (.inl (by simp))) ?_
              have RBn : Blk (wc.setCell ⟨g2, 1, none⟩ (.slice (some ⟨g6, 0, none⟩) (n + 1) c6)) g2 135 (rfCells (r.add x) (.slice (some ⟨g6, 0, none⟩) (n + 1) c6)) := T2.set_ 1 _
              replace E := E.st hlo2 1 (.slice (some ⟨g6, 0, none⟩) (n + 1) c6)
              replace D4 := D4.far hne24.symm (o := 1) (.slice (some ⟨g6, 0, none⟩) (n + 1) c6)
              have hO6 := ((Sr.of O6).blk g6 rfl).1
              replace O6 := row_heap O6 (w' := wc.setCell ⟨g2, 1, none⟩ (.slice (some ⟨g6, 0, none⟩) (n + 1) c6)) (fun k hk => Below.heap_setCells_ wc g2 1 _ k (by have e : g6 = k := Option.some.inj hk; omega))
              clear T2
              have T2 := RBn
              clear RBn
              refine g_done (by kernel_rfl) (hR.out _ _ ?_)
              clear hR R
              refine ⟨rfl, some ⟨g6, 0, none⟩, c6, H.sub ⟨rfl, rfl, rfl, trivial⟩, T2, D4, ?_, E⟩
              have hs := (Sr.of O6).mono hE0
              unfold It
              rw [List.length_map, List.length_append, hrl, List.map_append, show itsC (List.map toldOf r.list ++ List.map toldOf [x]) = itsC (List.map toldOf r.list) ++ (toldOf x).cells by unfold itsC; simp]
              exact hs
            · skip
              clear H a; intro a H
              have Db := Blk.new wc 141 (toldOf x).cells
              have Ea := (Ext.refl wc).al (.cells (toldOf x).cells.toArray 141)
              replace FSq := FSq.al (.cells (toldOf x).cells.toArray 141)
              replace T2 := T2.ext Ea
              replace T3 := T3.ext Ea
              replace D4 := D4.ext Ea
              replace E := E.tr Ea
              try replace hit := hit.ext Ea
              try replace O0 := row_al O0 (.cells (toldOf x).cells.toArray 141)
              try replace O3 := row_al O3 (.cells (toldOf x).cells.toArray 141)
              obtain ⟨gI, hgI⟩ : ∃ g, g = wc.heap.size := ⟨_, rfl⟩
              rw [← hgI] at H Db
              clear hgI
              generalize wc.alloc (.cells (toldOf x).cells.toArray 141) = wc at *
              obtain ⟨a3, c3, wn, hr3, O3, G3⟩ := run_copyIts O0 hit (by omega) FSq.size
              have hgEl := ((Sr.of O0).blk gE rfl).1
              have FSn : Frm [g2] wd0 wn := FSq.grown G3 (fun k hk => by cases hk; exact .inr hgEl)
              refine g_op 3 H rfl (by kernel_rfl) (wanted_none rfl) rfl (by decide) (x_builtin H rfl rfl (fun cs => bi_app hr3)) (FSn) ?_
              clear H a; intro a H
              replace FSq := FSn
              replace T2 := T2.grown G3 (by simp only [ne_eq, Option.some.injEq]; omega)
              replace T3 := T3.grown G3 (by simp only [ne_eq, Option.some.injEq]; omega)
              replace D4 := D4.grown G3 (by simp only [ne_eq, Option.some.injEq]; omega)
              replace E := E.grown G3 (fun k hk => by cases hk; omega)
              try replace Db := Db.grown G3 (by
                simp only [ne_eq, Option.some.injEq]
                rintro rfl
                rcases O0.2 with ⟨h, _⟩ | ⟨g9, cap9, cur9, h9, _, hh9, _, _, hs9, _⟩
                · cases h
                · simp only [Value.slice.injEq, Option.some.injEq, Addr.mk.injEq] at h9
                  obtain ⟨⟨rfl, _⟩, _, rfl⟩ := h9
                  unfold Blk at Db
                  rw [hh9] at Db
                  simp only [Option.some.injEq, Obj.cells.injEq] at Db
                  rw [Db.1] at hs9
                  simp [Itm.cells] at hs9)
              clear O0 hit G3 hr3 FSn
              generalize wn = wc at *
              obtain ⟨g6, c6, wn, hr6, O6, G6⟩ := run_appE el133 wc 133 wd0.heap.size a3 n c3 (itsC (r.list.map toldOf)) gI 1 1 (toldOf x).cells O3 rfl (fun j u hu => by rw [Db.cell]; exact hu) (itm_one _) (by omega) (by omega) FSq.size (by omega)
              have hown3 := fun k hk => ((Sr.of O3).blk k hk).1
              have FSn : Frm [g2] wd0 wn := FSq.grown G6 (fun k hk => .inr (hown3 k hk))
              refine g_op 6 H rfl (by kernel_rfl) (wanted_none rfl) rfl (by decide) (x_builtin H rfl rfl (fun cs => bi_app hr6)) (FSn) ?_
              clear H a; intro a H
              replace FSq := FSn
              replace T2 := T2.grown G6 (fun e => by have := hown3 g2 e.symm; omega)
              replace D4 := D4.grown G6 (fun e => by have := hown3 g4 e.symm; omega)
              replace E := E.grown G6 (fun k hk => Nat.le_trans hE0 (hown3 k hk))
              clear O3 Db T3 G6 hr6 FSn hown3
              generalize wn = wc at *
              refine g_take 7 H rfl (wanted_none rfl) rfl (by decide) (by kernel_rfl) (by kernel_rfl) (by kernel_rfl) FSq (fun w' hSw => (x_fieldAddr H rfl rfl (fa135_1 _ _))) ?_
              clear H a; intro a H
              refine g_st 8 H rfl (by kernel_rfl) (wanted_none rfl) rfl (x_store H rfl rfl rfl (st_cell rfl rfl Try.sizeOf133 (T2.frozen _) (T2.isSome 1 (by simp [rfCells])))) (FSq.st g2 1 _ (.inl (by simp))) ?_
              have RBn : Blk (wc.setCell ⟨g2, 1, none⟩ (.slice (some ⟨g6, 0, none⟩) (n + 1) c6)) g2 135 (rfCells (r.add x) (.slice (some ⟨g6, 0, none⟩) (n + 1) c6)) := T2.set_ 1 _
              replace E := E.st hlo2 1 (.slice (some ⟨g6, 0, none⟩) (n + 1) c6)
              replace D4 := D4.far hne24.symm (o := 1) (.slice (some ⟨g6, 0, none⟩) (n + 1) c6)
              have hO6 := ((Sr.of O6).blk g6 rfl).1
              replace O6 := row_heap O6 (w' := wc.setCell ⟨g2, 1, none⟩ (.slice (some ⟨g6, 0, none⟩) (n + 1) c6)) (fun k hk => Below.heap_setCells_ wc g2 1 _ k (by have e : g6 = k := Option.some.inj hk; omega))
              clear T2
              have T2 := RBn
              clear RBn
              refine g_done (by kernel_rfl) (hR.out _ _ ?_)
              clear hR R
              refine ⟨rfl, some ⟨g6, 0, none⟩, c6, H.sub ⟨rfl, rfl, rfl, trivial⟩, T2, D4, ?_, E⟩
              have hs := (Sr.of O6).mono hE0
              unfold It
              rw [List.length_map, List.length_append, hrl, List.map_append, show itsC (List.map toldOf r.list ++ List.map toldOf [x]) = itsC (List.map toldOf r.list) ++ (toldOf x).cells by unfold itsC; simp]
              exact hs
          · skip
            clear H a; intro a H
            have Db := Blk.new wc 141 (toldOf x).cells
            have Ea := (Ext.refl wc).al (.cells (toldOf x).cells.toArray 141)
            replace FSq := FSq.al (.cells (toldOf x).cells.toArray 141)
            replace T2 := T2.ext Ea
            replace T3 := T3.ext Ea
            replace D4 := D4.ext Ea
            replace E := E.tr Ea
            try replace hit := hit.ext Ea
            try replace O0 := row_al O0 (.cells (toldOf x).cells.toArray 141)
            try replace O3 := row_al O3 (.cells (toldOf x).cells.toArray 141)
            obtain ⟨gI, hgI⟩ : ∃ g, g = wc.heap.size := ⟨_, rfl⟩
            rw [← hgI] at H Db
            clear hgI
            generalize wc.alloc (.cells (toldOf x).cells.toArray 141) = wc at *
            refine g_op 0 H rfl (by kernel_rfl) (wanted_none rfl) rfl (by decide) (x_buildSlice H rfl rfl (bs133e _)) (FSq.al _) ?_
            clear H a; intro a H
            have O0 : (wc.alloc (.cells #[] 141)).ownsRow wd0.heap.size 141 5 (.slice (some ⟨wc.heap.size, 0, none⟩) 0 0) 0 [] := ⟨rfl, .inr ⟨wc.heap.size, 0, #[], rfl, FSq.size, heap_alloc_new wc _, Nat.le_refl _, by unfold maxLen; omega, rfl, rfl⟩⟩
            have Ea := (Ext.refl wc).al (.cells #[] 141)
            replace FSq := FSq.al (.cells #[] 141)
            replace T2 := T2.ext Ea
            replace T3 := T3.ext Ea
            replace D4 := D4.ext Ea
            replace E := E.tr Ea
            try replace hit := hit.ext Ea
            try replace Db := Db.ext Ea
            obtain ⟨gE, hgE⟩ : ∃ g, g = wc.heap.size := ⟨_, rfl⟩
            rw [← hgE] at H O0
            clear hgE
            generalize wc.alloc (.cells #[] 141) = wc at *
            obtain ⟨a3, c3, wn, hr3, O3, G3⟩ := run_copyIts O0 hit (by omega) FSq.size
            have hgEl := ((Sr.of O0).blk gE rfl).1
            have FSn : Frm [g2] wd0 wn := FSq.grown G3 (fun k hk => by cases hk; exact .inr hgEl)
            refine g_op 3 H rfl (by kernel_rfl) (wanted_none rfl) rfl (by decide) (x_builtin H rfl rfl (fun cs => bi_app hr3)) (FSn) ?_
            clear H a; intro a H
            replace FSq := FSn
            replace T2 := T2.grown G3 (by simp only [ne_eq, Option.some.injEq]; omega)
            replace T3 := T3.grown G3 (by simp only [ne_eq, Option.some.injEq]; omega)
            replace D4 := D4.grown G3 (by simp only [ne_eq, Option.some.injEq]; omega)
            replace E := E.grown G3 (fun k hk => by cases hk; omega)
            try replace Db := Db.grown G3 (by
              simp only [ne_eq, Option.some.injEq]
              rintro rfl
              rcases O0.2 with ⟨h, _⟩ | ⟨g9, cap9, cur9, h9, _, hh9, _, _, hs9, _⟩
              · cases h
              · simp only [Value.slice.injEq, Option.some.injEq, Addr.mk.injEq] at h9
                obtain ⟨⟨rfl, _⟩, _, rfl⟩ := h9
                unfold Blk at Db
                rw [hh9] at Db
                simp only [Option.some.injEq, Obj.cells.injEq] at Db
                rw [Db.1] at hs9
                simp [Itm.cells] at hs9)
            clear O0 hit G3 hr3 FSn
            generalize wn = wc at *
            obtain ⟨g6, c6, wn, hr6, O6, G6⟩ := run_appE el133 wc 133 wd0.heap.size a3 n c3 (itsC (r.list.map toldOf)) gI 1 1 (toldOf x).cells O3 rfl (fun j u hu => by rw [Db.cell]; exact hu) (itm_one _) (by omega) (by omega) FSq.size (by omega)
            have hown3 := fun k hk => ((Sr.of O3).blk k hk).1
            have FSn : Frm [g2] wd0 wn := FSq.grown G6 (fun k hk => .inr (hown3 k hk))
            refine g_op 6 H rfl (by kernel_rfl) (wanted_none rfl) rfl (by decide) (x_builtin H rfl rfl (fun cs => bi_app hr6)) (FSn) ?_
            clear H a; intro a H
            replace FSq := FSn
            replace T2 := T2.grown G6 (fun e => by have := hown3 g2 e.symm; omega)
            replace D4 := D4.grown G6 (fun e => by have := hown3 g4 e.symm; omega)
            replace E := E.grown G6 (fun k hk => Nat.le_trans hE0 (hown3 k hk))
            clear O3 Db T3 G6 hr6 FSn hown3
            generalize wn = wc at *
            refine g_take 7 H rfl (wanted_none rfl) rfl (by decide) (by kernel_rfl) (by kernel_rfl) (by kernel_rfl) FSq (fun w' hSw => (x_fieldAddr H rfl rfl (fa135_1 _ _))) ?_
            clear H a; intro a H
            refine g_st 8 H rfl (by kernel_rfl) (wanted_none rfl) rfl (x_store H rfl rfl rfl (st_cell rfl rfl Try.sizeOf133 (T2.frozen _) (T2.isSome 1 (by simp [rfCells])))) (FSq.st g2 1 _ (.inl (by simp))) ?_
            have RBn : Blk (wc.setCell ⟨g2, 1, none⟩ (.slice (some ⟨g6, 0, none⟩) (n + 1) c6)) g2 135 (rfCells (r.add x) (.slice (some ⟨g6, 0, none⟩) (n + 1) c6)) := T2.set_ 1 _
            replace E := E.st hlo2 1 (.slice (some ⟨g6, 0, none⟩) (n + 1) c6)
            replace D4 := D4.far hne24.symm (o := 1) (.slice (some ⟨g6, 0, none⟩) (n + 1) c6)
            have hO6 := ((Sr.of O6).blk g6 rfl).1
            replace O6 := row_heap O6 (w' := wc.setCell ⟨g2, 1, none⟩ (.slice (some ⟨g6, 0, none⟩) (n + 1) c6)) (fun k hk => Below.heap_setCells_ wc g2 1 _ k (by have e : g6 = k := Option.some.inj hk; omega))
            clear T2
            have T2 := RBn
            clear RBn
            refine g_done (by kernel_rfl) (hR.out _ _ ?_)
            clear hR R
            refine ⟨rfl, some ⟨g6, 0, none⟩, c6, H.sub ⟨rfl, rfl, rfl, trivial⟩, T2, D4, ?_, E⟩
            have hs := (Sr.of O6).mono hE0
            unfold It
            rw [List.length_map, List.length_append, hrl, List.map_append, show itsC (List.map toldOf r.list ++ List.map toldOf [x]) = itsC (List.map toldOf r.list) ++ (toldOf x).cells by unfold itsC; simp]
            exact hs
        · skip
          clear H a; intro a H
          have Db := Blk.new wc 141 (toldOf x).cells
          have Ea := (Ext.refl wc).al (.cells (toldOf x).cells.toArray 141)
          replace FSq := FSq.al (.cells (toldOf x).cells.toArray 141)
          replace T2 := T2.ext Ea
          replace T3 := T3.ext Ea
          replace D4 := D4.ext Ea
          replace E := E.tr Ea
          try replace hit := hit.ext Ea
          try replace O0 := row_al O0 (.cells (toldOf x).cells.toArray 141)
          try replace O3 := row_al O3 (.cells (toldOf x).cells.toArray 141)
          obtain ⟨gI, hgI⟩ : ∃ g, g = wc.heap.size := ⟨_, rfl⟩
          rw [← hgI] at H Db
          clear hgI
          generalize wc.alloc (.cells (toldOf x).cells.toArray 141) = wc at *
          refine g_two 0 2 H (by kernel_rfl) rfl (wanted_none rfl) rfl (by decide) (x_buildSlice H rfl rfl (bs133e _)) (FSq.al _) rfl (wanted_none rfl) rfl (by decide) (x_load H rfl rfl (l_cell Try.isAgg133 (T2.at_ (i := 1) rfl))) (FSq) ?_ ?_
          · skip
            clear H a; intro a H
            have O0 : (wc.alloc (.cells #[] 141)).ownsRow wd0.heap.size 141 5 (.slice (some ⟨wc.heap.size, 0, none⟩) 0 0) 0 [] := ⟨rfl, .inr ⟨wc.heap.size, 0, #[], rfl, FSq.size, heap_alloc_new wc _, Nat.le_refl _, by unfold maxLen; omega, rfl, rfl⟩⟩
            have Ea := (Ext.refl wc).al (.cells #[] 141)
            replace FSq := FSq.al (.cells #[] 141)
            replace T2 := T2.ext Ea
            replace T3 := T3.ext Ea
            replace D4 := D4.ext Ea
            replace E := E.tr Ea
            try replace hit := hit.ext Ea
            try replace Db := Db.ext Ea
            obtain ⟨gE, hgE⟩ : ∃ g, g = wc.heap.size := ⟨_, rfl⟩
            rw [← hgE] at H O0
            clear hgE
            generalize wc.alloc (.cells #[] 141) = wc at *
            refine g_op 2 H rfl (by kernel_rfl) (wanted_none rfl) rfl (by decide) (x_load H rfl rfl (l_cell Try.isAgg133 (T2.at_ (i := 1) rfl))) (FSq) ?_
            clear H a; intro a H
            obtain ⟨a3, c3, wn, hr3, O3, G3⟩ := run_copyIts O0 hit (by omega) FSq.size
            have hgEl := ((Sr.of O0).blk gE rfl).1
            have FSn : Frm [g2] wd0 wn := FSq.grown G3 (fun k hk => by cases hk; exact .inr hgEl)
            refine g_op 3 H rfl (by kernel_rfl) (wanted_none rfl) rfl (by decide) (x_builtin H rfl rfl (fun cs => bi_app hr3)) (FSn) ?_
            clear H a; intro a H
            replace FSq := FSn
            replace T2 := T2.grown G3 (by simp only [ne_eq, Option.some.injEq]; omega)
            replace T3 := T3.grown G3 (by simp only [ne_eq, Option.some.injEq]; omega)
            replace D4 := D4.grown G3 (by simp only [ne_eq, Option.some.injEq]; omega)
            replace E := E.grown G3 (fun k hk => by cases hk; omega)
            try replace Db := Db.grown G3 (by
              simp only [ne_eq, Option.some.injEq]
              rintro rfl
              rcases O0.2 with ⟨h, _⟩ | ⟨g9, cap9, cur9, h9, _, hh9, _, _, hs9, _⟩
              · cases h
              · simp only [Value.slice.injEq, Option.some.injEq, Addr.mk.injEq] at h9
                obtain ⟨⟨rfl, _⟩, _, rfl⟩ := h9
                unfold Blk at Db
                rw [hh9] at Db
                simp only [Option.some.injEq, Obj.cells.injEq] at Db
                rw [Db.1] at hs9
                simp [Itm.cells] at hs9)
            clear O0 hit G3 hr3 FSn
            generalize wn = wc at *
            obtain ⟨g6, c6, wn, hr6, O6, G6⟩ := run_appE el133 wc 133 wd0.heap.size a3 n c3 (itsC (r.list.map toldOf)) gI 1 1 (toldOf x).cells O3 rfl (fun j u hu => by rw [Db.cell]; exact hu) (itm_one _) (by omega) (by omega) FSq.size (by omega)
            have hown3 := fun k hk => ((Sr.of O3).blk k hk).1
            have FSn : Frm [g2] wd0 wn := FSq.grown G6 (fun k hk => .inr (hown3 k hk))
            refine g_op 6 H rfl (by kernel_rfl) (wanted_none rfl) rfl (by decide) (x_builtin H rfl rfl (fun cs => bi_app hr6)) (FSn) ?_
            clear H a; intro a H
            replace FSq := FSn
            replace T2 := T2.grown G6 (fun e => by have := hown3 g2 e.symm; omega)
            replace D4 := D4.grown G6 (fun e => by have := hown3 g4 e.symm; omega)
            replace E := E.grown G6 (fun k hk => Nat.le_trans hE0 (hown3 k hk))
            clear O3 Db T3 G6 hr6 FSn hown3
            generalize wn = wc at *
            refine g_take 7 H rfl (wanted_none rfl) rfl (by decide) (by kernel_rfl) (by kernel_rfl) (by kernel_rfl) FSq (fun w' hSw => (x_fieldAddr H rfl rfl (fa135_1 _ _))) ?_
            clear H a; intro a H
            refine g_st 8 H rfl (by kernel_rfl) (wanted_none rfl) rfl (x_store H rfl rfl rfl (st_cell rfl rfl Try.sizeOf133 (T2.frozen _) (T2.isSome 1 (by simp [rfCells])))) (FSq.st g2 1 _ (.inl (by simp))) ?_
            have RBn : Blk (wc.setCell ⟨g2, 1, none⟩ (.slice (some ⟨g6, 0, none⟩) (n + 1) c6)) g2 135 (rfCells (r.add x) (.slice (some ⟨g6, 0, none⟩) (n + 1) c6)) := T2.set_ 1 _
            replace E := E.st hlo2 1 (.slice (some ⟨g6, 0, none⟩) (n + 1) c6)
            replace D4 := D4.far hne24.symm (o := 1) (.slice (some ⟨g6, 0, none⟩) (n + 1) c6)
            have hO6 := ((Sr.of O6).blk g6 rfl).1
            replace O6 := row_heap O6 (w' := wc.setCell ⟨g2, 1, none⟩ (.slice (some ⟨g6, 0, none⟩) (n + 1) c6)) (fun k hk => Below.heap_setCells_ wc g2 1 _ k (by have e : g6 = k := Option.some.inj hk; omega))
            clear T2
            have T2 := RBn
            clear RBn
            refine g_done (by kernel_rfl) (hR.out _ _ ?_)
            clear hR R
            refine ⟨rfl, some ⟨g6, 0, none⟩, c6, H.sub ⟨rfl, rfl, rfl, trivial⟩, T2, D4, ?_, E⟩
            have hs := (Sr.of O6).mono hE0
            unfold It
            rw [List.length_map, List.length_append, hrl, List.map_append, show itsC (List.map toldOf r.list ++ List.map toldOf [x]) = itsC (List.map toldOf r.list) ++ (toldOf x).cells by unfold itsC; simp]
            exact hs
          · skip
            clear H a; intro a H
            refine g_op 0 H rfl (by kernel_rfl) (wanted_none rfl) rfl (by decide) (x_buildSlice H rfl rfl (bs133e _)) (FSq.al _) ?_
            clear H a; intro a H
            have O0 : (wc.alloc (.cells #[] 141)).ownsRow wd0.heap.size 141 5 (.slice (some ⟨wc.heap.size, 0, none⟩) 0 0) 0 [] := ⟨rfl, .inr ⟨wc.heap.size, 0, #[], rfl, FSq.size, heap_alloc_new wc _, Nat.le_refl _, by unfold maxLen; omega, rfl, rfl⟩⟩
            have Ea := (Ext.refl wc).al (.cells #[] 141)
            replace FSq := FSq.al (.cells #[] 141)
            replace T2 := T2.ext Ea
            replace T3 := T3.ext Ea
            replace D4 := D4.ext Ea
            replace E := E.tr Ea
            try replace hit := hit.ext Ea
            try replace Db := Db.ext Ea
            obtain ⟨gE, hgE⟩ : ∃ g, g = wc.heap.size := ⟨_, rfl⟩
            rw [← hgE] at H O0
            clear hgE
            generalize wc.alloc (.cells #[] 141) = wc at *
            obtain ⟨a3, c3, wn, hr3, O3, G3⟩ := run_copyIts O0 hit (by omega) FSq.size
            have hgEl := ((Sr.of O0).blk gE rfl).1
            have FSn : Frm [g2] wd0 wn := FSq.grown G3 (fun k hk => by cases hk; exact .inr hgEl)
            refine g_op 3 H rfl (by kernel_rfl) (wanted_none rfl) rfl (by decide) (x_builtin H rfl rfl (fun cs => bi_app hr3)) (FSn) ?_
            clear H a; intro a H
            replace FSq := FSn
            replace T2 := T2.grown G3 (by simp only [ne_eq, Option.some.injEq]; omega)
            replace T3 := T3.grown G3 (by simp only [ne_eq, Option.some.injEq]; omega)
            replace D4 := D4.grown G3 (by simp only [ne_eq, Option.some.injEq]; omega)
            replace E := E.grown G3 (fun k hk => by cases hk; omega)
            try replace Db := Db.grown G3 (by
              simp only [ne_eq, Option.some.injEq]
              rintro rfl
              rcases O0.2 with ⟨h, _⟩ | ⟨g9, cap9, cur9, h9, _, hh9, _, _, hs9, _⟩
              · cases h
              · simp only [Value.slice.injEq, Option.some.injEq, Addr.mk.injEq] at h9
                obtain ⟨⟨rfl, _⟩, _, rfl⟩ := h9
                unfold Blk at Db
                rw [hh9] at Db
                simp only [Option.some.injEq, Obj.cells.injEq] at Db
                rw [Db.1] at hs9
                simp [Itm.cells] at hs9)
            clear O0 hit G3 hr3 FSn
            generalize wn = wc at *
            obtain ⟨g6, c6, wn, hr6, O6, G6⟩ := run_appE el133 wc 133 wd0.heap.size a3 n c3 (itsC (r.list.map toldOf)) gI 1 1 (toldOf x).cells O3 rfl (fun j u hu => by rw [Db.cell]; exact hu) (itm_one _) (by omega) (by omega) FSq.size (by omega)
            have hown3 := fun k hk => ((Sr.of O3).blk k hk).1
            have FSn : Frm [g2] wd0 wn := FSq.grown G6 (fun k hk => .inr (hown3 k hk))
            refine g_op 6 H rfl (by kernel_rfl) (wanted_none rfl) rfl (by decide) (x_builtin H rfl rfl (fun cs => bi_app hr6)) (FSn) ?_
            clear H a; intro a H
            replace FSq := FSn
            replace T2 := T2.grown G6 (fun e => by have := hown3 g2 e.symm; omega)
            replace D4 := D4.grown G6 (fun e => by have := hown3 g4 e.symm; omega)
            replace E := E.grown G6 (fun k hk => Nat.le_trans hE0 (hown3 k hk))
            clear O3 Db T3 G6 hr6 FSn hown3
            generalize wn = wc at *
            refine g_take 7 H rfl (wanted_none rfl) rfl (by decide) (by kernel_rfl) (by kernel_rfl) (by kernel_rfl) FSq (fun w' hSw => (x_fieldAddr H rfl rfl (fa135_1 _ _))) ?_
            clear H a; intro a H
            refine g_st 8 H rfl (by kernel_rfl) (wanted_none rfl) rfl (x_store H rfl rfl rfl (st_cell rfl rfl Try.sizeOf133 (T2.frozen _) (T2.isSome 1 (by simp [rfCells])))) (FSq.st g2 1 _ (.inl (by simp))) ?_
            have RBn : Blk (wc.setCell ⟨g2, 1, none⟩ (.slice (some ⟨g6, 0, none⟩) (n + 1) c6)) g2 135 (rfCells (r.add x) (.slice (some ⟨g6, 0, none⟩) (n + 1) c6)) := T2.set_ 1 _
            replace E := E.st hlo2 1 (.slice (some ⟨g6, 0, none⟩) (n + 1) c6)
            replace D4 := D4.far hne24.symm (o := 1) (.slice (some ⟨g6, 0, none⟩) (n + 1) c6)
            have hO6 := ((Sr.of O6).blk g6 rfl).1
            replace O6 := row_heap O6 (w' := wc.setCell ⟨g2, 1, none⟩ (.slice (some ⟨g6, 0, none⟩) (n + 1) c6)) (fun k hk => Below.heap_setCells_ wc g2 1 _ k (by have e : g6 = k := Option.some.inj hk; omega))
            clear T2
            have T2 := RBn
            clear RBn
            refine g_done (by kernel_rfl) (hR.out _ _ ?_)
            clear hR R
            refine ⟨rfl, some ⟨g6, 0, none⟩, c6, H.sub ⟨rfl, rfl, rfl, trivial⟩, T2, D4, ?_, E⟩
            have hs := (Sr.of O6).mono hE0
            unfold It
            rw [List.length_map, List.length_append, hrl, List.map_append, show itsC (List.map toldOf r.list ++ List.map toldOf [x]) = itsC (List.map toldOf r.list) ++ (toldOf x).cells by unfold itsC; simp]
            exact hs
    · skip
      by_cases hb : r.begun = true
      · skip
        rw [hb] at H
        unfold rfCells at T2
        rw [hb, show r.era = (r.add x).era by simp [Rg.add, hb], show r.first = (r.add x).first by simp [Rg.add, hb]] at T2
        refine c_false H rfl ?_
        refine wp_skip ?_
        exact ⟨rfl, H.sub ⟨rfl, rfl, rfl, trivial⟩, T2, T3, D4, hit, E⟩
      · skip
        simp only [Bool.not_eq_true] at hb
        rw [hb] at H
        refine c_true H rfl ?_
        obtain ⟨w4, hw4⟩ : ∃ wx, wx = w3.drew := ⟨_, rfl⟩
        have Ew4 : Ext w3 w4 := by rw [hw4]; exact (Ext.refl _).dr
        replace T2 := T2.ext Ew4
        replace T3 := T3.ext Ew4
        replace D4 := D4.ext Ew4
        replace E := E.tr Ew4
        replace hit := hit.ext Ew4
        have T0 := T3
        have FSq := Frm.refl [g2] w4
        refine g_start (fun w' => Frm [g2] w4 w') (by kernel_rfl) (fun R hR => ?_)
        rw [← hw4]
        refine g_take 0 H rfl (wanted_none rfl) rfl (by decide) (by kernel_rfl) (by kernel_rfl) (by kernel_rfl) FSq (fun w' hSw => (x_fieldAddr H rfl rfl (fa141_0 _ _))) ?_
        clear H a; intro a H
        refine g_take 1 H rfl (wanted_none rfl) rfl (by decide) (by kernel_rfl) (by kernel_rfl) (by kernel_rfl) FSq (fun w' hSw => (x_load H rfl rfl (l_cell Try.isAgg3 ((T0.frm hSw (by simpa using hne23.symm)).at_ (i := 0) rfl)))) ?_
        clear H a; intro a H
        refine g_take 2 H rfl (wanted_none rfl) rfl (by decide) (by kernel_rfl) (by kernel_rfl) (by kernel_rfl) FSq (fun w' hSw => (x_fieldAddr H rfl rfl (fa141_2 _ _))) ?_
        clear H a; intro a H
        refine g_take 3 H rfl (wanted_none rfl) rfl (by decide) (by kernel_rfl) (by kernel_rfl) (by kernel_rfl) FSq (fun w' hSw => (x_load H rfl rfl (l_cell Try.isAgg56 ((T0.frm hSw (by simpa using hne23.symm)).at_ (i := 2) rfl)))) ?_
        clear H a; intro a H
        refine g_take 4 H rfl (wanted_none rfl) rfl (by decide) (by kernel_rfl) (by kernel_rfl) (by kernel_rfl) FSq (fun w' hSw => (x_fieldAddr H rfl rfl (fa135_2 _ _))) ?_
        clear H a; intro a H
        refine g_st 5 H rfl (by kernel_rfl) (wanted_none rfl) rfl (x_store H rfl rfl rfl (st_cell rfl rfl Try.sizeOf4 (T2.frozen _) (T2.isSome 2 (by simp [rfCells])))) (FSq.st g2 2 (.bool true) (.inl (by simp))) ?_
        replace FSq := FSq.st g2 2 (.bool true) (.inl (by simp))
        have RBn : Blk (w4.setCell ⟨g2, 2, none⟩ (.bool true)) g2 135 [.int .i64 r.cap, (.slice va n c), .bool true, .int .i64 r.era, .int .u64 (r.first : Int), .int .u64 (r.next : Int)] := T2.set_ 2 (.bool true)
        replace E := E.st hlo2 2 (.bool true)
        replace T3 := T3.far hne23.symm (o := 2) (.bool true)
        replace D4 := D4.far hne24.symm (o := 2) (.bool true)
        replace hit := hit.frm' (g := g2) (o := 2) (v' := .bool true) hvg
        replace T2 := RBn
        clear RBn
        generalize w4.setCell ⟨g2, 2, none⟩ (.bool true) = w5 at *
        refine g_take 6 H rfl (wanted_none rfl) rfl (by decide) (by kernel_rfl) (by kernel_rfl) (by kernel_rfl) FSq (fun w' hSw => (x_fieldAddr H rfl rfl (fa135_3 _ _))) ?_
        clear H a; intro a H
        refine g_st 7 H rfl (by kernel_rfl) (wanted_none rfl) rfl (x_store H rfl rfl rfl (st_cell rfl rfl Try.sizeOf3 (T2.frozen _) (T2.isSome 3 (by simp [rfCells])))) (FSq.st g2 3 (.int .i64 (toldOf x).era) (.inl (by simp))) ?_
        replace FSq := FSq.st g2 3 (.int .i64 (toldOf x).era) (.inl (by simp))
        have RBn : Blk (w5.setCell ⟨g2, 3, none⟩ (.int .i64 (toldOf x).era)) g2 135 [.int .i64 r.cap, (.slice va n c), .bool true, .int .i64 x.era, .int .u64 (r.first : Int), .int .u64 (r.next : Int)] := T2.set_ 3 (.int .i64 (toldOf x).era)
        replace E := E.st hlo2 3 (.int .i64 (toldOf x).era)
        replace T3 := T3.far hne23.symm (o := 3) (.int .i64 (toldOf x).era)
        replace D4 := D4.far hne24.symm (o := 3) (.int .i64 (toldOf x).era)
        replace hit := hit.frm' (g := g2) (o := 3) (v' := .int .i64 (toldOf x).era) hvg
        replace T2 := RBn
        clear RBn
        generalize w5.setCell ⟨g2, 3, none⟩ (.int .i64 (toldOf x).era) = w6 at *
        refine g_take 8 H rfl (wanted_none rfl) rfl (by decide) (by kernel_rfl) (by kernel_rfl) (by kernel_rfl) FSq (fun w' hSw => (x_fieldAddr H rfl rfl (fa135_4 _ _))) ?_
        clear H a; intro a H
        refine g_st 9 H rfl (by kernel_rfl) (wanted_none rfl) rfl (x_store H rfl rfl rfl (st_cell rfl rfl Try.sizeOf56 (T2.frozen _) (T2.isSome 4 (by simp [rfCells])))) (FSq.st g2 4 (.int .u64 ((toldOf x).seq : Int)) (.inl (by simp))) ?_
        replace FSq := FSq.st g2 4 (.int .u64 ((toldOf x).seq : Int)) (.inl (by simp))
        have RBn : Blk (w6.setCell ⟨g2, 4, none⟩ (.int .u64 ((toldOf x).seq : Int))) g2 135 [.int .i64 r.cap, (.slice va n c), .bool true, .int .i64 x.era, .int .u64 (x.idx : Int), .int .u64 (r.next : Int)] := T2.set_ 4 (.int .u64 ((toldOf x).seq : Int))
        replace E := E.st hlo2 4 (.int .u64 ((toldOf x).seq : Int))
        replace T3 := T3.far hne23.symm (o := 4) (.int .u64 ((toldOf x).seq : Int))
        replace D4 := D4.far hne24.symm (o := 4) (.int .u64 ((toldOf x).seq : Int))
        replace hit := hit.frm' (g := g2) (o := 4) (v' := .int .u64 ((toldOf x).seq : Int)) hvg
        replace T2 := RBn
        clear RBn
        generalize w6.setCell ⟨g2, 4, none⟩ (.int .u64 ((toldOf x).seq : Int)) = w7 at *
        refine g_done (by kernel_rfl) (hR.out _ _ ?_)
        clear hR R
        clear FSq T0
        rw [show x.era = (r.add x).era by simp [Rg.add, hb], show x.idx = (r.add x).first by simp [Rg.add, hb]] at T2
        exact ⟨rfl, H.sub ⟨rfl, rfl, rfl, trivial⟩, T2, T3, D4, hit, E⟩
  · skip
    by_cases hb : r.begun = true
    · skip
      obtain ⟨he, hi0⟩ := hbeg hb
      have hera : ((toldOf x).era != r.era) = false := by simp [toldOf, he]
      have hidx : ((((toldOf x).seq : Nat) : Int) != ((r.next : Nat) : Int)) = false := by simp [toldOf, hi0]
      refine e_region (fun R hR => ?_)
      refine e_op H rfl rfl (by decide) (x_fieldAddr H rfl rfl (fa135_2 _ _)) ?_
      clear H a; intro a H
      refine e_op H rfl rfl (by decide) (x_load H rfl rfl (l_cell Try.isAgg4 ((show _ = some (.bool true) by rw [← hb]; exact T2.at_ (i := 2) rfl)))) ?_
      clear H a; intro a H
      refine e_op H rfl rfl (by decide) (x_move H rfl rfl) ?_
      clear H a; intro a H
      refine e_opg H (wanted_true H rfl rfl rfl rfl) rfl (by decide) (x_fieldAddr H rfl rfl (fa141_0 _ _)) ?_
      clear H a; intro a H
      refine e_opg H (wanted_true H rfl rfl rfl rfl) rfl (by decide) (x_load H rfl rfl (l_cell Try.isAgg3 (T3.at_ (i := 0) rfl))) ?_
      clear H a; intro a H
      refine e_opg H (wanted_true H rfl rfl rfl rfl) rfl (by decide) (x_fieldAddr H rfl rfl (fa135_3 _ _)) ?_
      clear H a; intro a H
      refine e_opg H (wanted_true H rfl rfl rfl rfl) rfl (by decide) (x_load H rfl rfl (l_cell Try.isAgg3 (T2.at_ (i := 3) rfl))) ?_
      clear H a; intro a H
      refine e_opg H (wanted_true H rfl rfl rfl rfl) rfl (by decide) (x_binI H rfl rfl rfl (b_neq (b := false) (hera))) ?_
      clear H a; intro a H
      refine e_opg H (wanted_true H rfl rfl rfl rfl) rfl (by decide) (x_move H rfl rfl) ?_
      clear H a; intro a H
      refine e_opg H (wanted_true H rfl rfl rfl rfl) rfl (by decide) (x_fieldAddr H rfl rfl (fa141_2 _ _)) ?_
      clear H a; intro a H
      refine e_opg H (wanted_true H rfl rfl rfl rfl) rfl (by decide) (x_load H rfl rfl (l_cell Try.isAgg56 (T3.at_ (i := 2) rfl))) ?_
      clear H a; intro a H
      refine e_opg H (wanted_true H rfl rfl rfl rfl) rfl (by decide) (x_fieldAddr H rfl rfl (fa135_5 _ _)) ?_
      clear H a; intro a H
      refine e_opg H (wanted_true H rfl rfl rfl rfl) rfl (by decide) (x_load H rfl rfl (l_cell Try.isAgg56 (T2.at_ (i := 5) rfl))) ?_
      clear H a; intro a H
      refine e_opg H (wanted_true H rfl rfl rfl rfl) rfl (by decide) (x_binI H rfl rfl rfl (b_neq (b := false) (hidx))) ?_
      clear H a; intro a H
      refine e_opg H (wanted_true H rfl rfl rfl rfl) rfl (by decide) (x_pickF H rfl rfl rfl) ?_
      clear H a; intro a H
      refine e_op H rfl rfl (by decide) (x_pickT H rfl rfl rfl) ?_
      clear H a; intro a H
      refine e_nil (hR.out _ _ ?_)
      clear hR R
      exact ⟨rfl, H.sub ⟨rfl, rfl, rfl, rfl, trivial⟩, rfl⟩
    · skip
      simp only [Bool.not_eq_true] at hb
      refine e_region (fun R hR => ?_)
      refine e_op H rfl rfl (by decide) (x_fieldAddr H rfl rfl (fa135_2 _ _)) ?_
      clear H a; intro a H
      refine e_op H rfl rfl (by decide) (x_load H rfl rfl (l_cell Try.isAgg4 ((show _ = some (.bool false) by rw [← hb]; exact T2.at_ (i := 2) rfl)))) ?_
      clear H a; intro a H
      refine e_op H rfl rfl (by decide) (x_move H rfl rfl) ?_
      clear H a; intro a H
      refine e_skip H (wanted_false H rfl rfl rfl rfl) rfl (by decide) ?_
      clear H a; intro a H
      refine e_skip H (wanted_false H rfl rfl rfl rfl) rfl (by decide) ?_
      clear H a; intro a H
      refine e_skip H (wanted_false H rfl rfl rfl rfl) rfl (by decide) ?_
      clear H a; intro a H
      refine e_skip H (wanted_false H rfl rfl rfl rfl) rfl (by decide) ?_
      clear H a; intro a H
      refine e_skip H (wanted_false H rfl rfl rfl rfl) rfl (by decide) ?_
      clear H a; intro a H
      refine e_skip H (wanted_false H rfl rfl rfl rfl) rfl (by decide) ?_
      clear H a; intro a H
      refine e_skip H (wanted_undef H rfl rfl rfl rfl) rfl (by decide) ?_
      clear H a; intro a H
      refine e_skip H (wanted_undef H rfl rfl rfl rfl) rfl (by decide) ?_
      clear H a; intro a H
      refine e_skip H (wanted_undef H rfl rfl rfl rfl) rfl (by decide) ?_
      clear H a; intro a H
      refine e_skip H (wanted_undef H rfl rfl rfl rfl) rfl (by decide) ?_
      clear H a; intro a H
      refine e_skip H (wanted_undef H rfl rfl rfl rfl) rfl (by decide) ?_
      clear H a; intro a H
      refine e_skip H (wanted_false H rfl rfl rfl rfl) rfl (by decide) ?_
      clear H a; intro a H
      refine e_op H rfl rfl (by decide) (x_pickF H rfl rfl rfl) ?_
      clear H a; intro a H
      refine e_nil (hR.out _ _ ?_)
      clear hR R
      exact ⟨rfl, H.sub ⟨rfl, rfl, rfl, rfl, trivial⟩, rfl⟩
end Go.Proofs.Ytknllmcpogoeoaa
