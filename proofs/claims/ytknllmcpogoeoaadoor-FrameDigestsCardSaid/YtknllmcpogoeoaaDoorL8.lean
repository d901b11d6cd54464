/- Leaf, Pair, Parts and the reference's Parts, walked. -/
import Derived.Test.YtknllmcpogoeoaaDoorL5
namespace Go.Proofs.YtknllmcpogoeoaaDoor
open Go.RowKit
set_option linter.unusedVariables false
set_option linter.unusedSimpArgs false
set_option maxRecDepth 100000
/-! The parts' text, plainly. -/
def cat (ls : List (List UInt8)) : List UInt8 := ls.flatMap fun p => be8 p.length ++ p
theorem be8_len8 (x : Nat) : (be8 x).length = 8 := by simp [be8]
theorem cat_len : ∀ (ls : List (List UInt8)), (∀ y ∈ ls, y.length ≤ 60) → (cat ls).length ≤ 68 * ls.length
  | [], _ => by simp [cat]
  | y :: r, h => by
    have := cat_len r (fun z hz => h z (List.mem_cons_of_mem _ hz))
    have hy := h y (List.mem_cons_self ..)
    have e : cat (y :: r) = (be8 y.length ++ y) ++ cat r := by simp [cat]
    rw [e]
    simp only [List.length_append, be8_len8, List.length_cons]
    omega
theorem cat_take {ls : List (List UInt8)} (h : ∀ y ∈ ls, y.length ≤ 60) (k : Nat) : (cat (ls.take k)).length ≤ 68 * k := by
  have := cat_len (ls.take k) (fun y hy => h y (List.mem_of_mem_take hy))
  rw [List.length_take] at this
  omega
theorem cat_succ {ls : List (List UInt8)} {k : Nat} {y : List UInt8} (h : ls[k]? = some y) : cat (ls.take (k + 1)) = cat (ls.take k) ++ be8 y.length ++ y := by
  unfold cat
  rw [List.take_add_one, h, List.flatMap_append]
  simp
/-! Steps that carry their worlds' tie along. -/
theorem ap1 {W w : World} (EV : Ext W w) {a : Option Addr} {n c : Nat} {l : List UInt8} (Z : Ow w W.heap.size a n c l) {ax : Option Addr} {m cx : Nat} {r : List UInt8} (hb : Bs w ax m r) (hn : ax = none → cx = 0) (hbd : n + m ≤ 140737488355328) :
    ∃ a' c' w', (Builtin.append_ #[22, 22] 22 #[.slice a n c, .slice ax m cx]).run Tryd.prog w = .ok (.slice a' (n + m) c') w' ∧ Ow w' W.heap.size a' (n + m) c' (l ++ r) ∧ Ext W w' := by
  obtain ⟨a', c', w', hr, O, G⟩ := run_app w 22 W.heap.size a n c l ax m cx r Z hb hbd EV.sz hn
  exact ⟨a', c', w', hr, O, EV.app Z (Nat.le_refl _) G⟩
theorem al1 {W w : World} (EV : Ext W w) (x : UInt8) {i : Int} (hi : i = (x.toNat : Int)) :
    ∃ g w', (Instr.buildSlice 22 1 #[(0, .int .u8 i)]).run Tryd.prog w = .ok (.slice (some ⟨g, 0, none⟩) 1 1) w' ∧ Ow w' W.heap.size (some ⟨g, 0, none⟩) 1 1 [x] ∧ Ext W w' ∧ w.heap.size ≤ g ∧ Ext w w' := by
  subst hi
  exact ⟨w.heap.size, _, bs1 _ w, Ow.new w _ W.heap.size 1 [x] rfl rfl EV.sz (by omega), EV.al _, Nat.le_refl _, (Ext.refl w).al _⟩
theorem ownNil (w : World) (B : Nat) : Ow w B none 0 0 [] := ⟨rfl, Or.inl ⟨rfl, rfl⟩⟩
theorem own_cell {w : World} {B e : Nat} {n c : Nat} {xs : List Value} {a : Option Addr} (h : w.ownsRow B e 1 (.slice a n c) n xs) {k : Nat} {u : Value} (hu : xs[k]? = some u) : ∃ g, a = some ⟨g, 0, none⟩ ∧ w.cell? ⟨g, k, none⟩ = some u := by
  have hk := (List.getElem?_eq_some_iff.1 hu).1
  have hl : xs.length = n * 1 := h.1
  rcases h.2 with ⟨_, h0⟩ | ⟨g, cap, cur, e1, hg, hh, hn, hm, hs, ht⟩
  · omega
  · simp only [Value.slice.injEq] at e1
    refine ⟨g, e1.1, ?_⟩
    rw [cell_of_row w g k cur _ (0, 0) hh]
    have := congrArg (fun z => z[k]?) ht
    simp only [List.getElem?_take, if_pos (show k < n * 1 by omega)] at this
    rw [← Array.getElem?_toList, this, hu]
theorem leaf_any (ad : Option Addr) (m c : Nat) (p : List UInt8) (w0 : World) (hp : Bs w0 ad m p) (hc : m ≤ c) (hn : ad = none → c = 0) (hm : m ≤ 1048576) (K0 : Kc w0) (h0 : 0 < w0.heap.size) :
    Calls Tryd.prog 29 #[.slice ad m c] w0 fun e w' => e = .returned (.agg (u8s (sha ([] ++ [0] ++ p))).toArray) ∧ Ext w0 w' := by
  refine calls_has (args := [.slice ad m c]) Tryd.func29 rfl Tryd.ntmps29 (Nat.le_of_ble_eq_true rfl) (fun a H => ?_)
  simp only [argl, Nat.reduceAdd] at H
  refine wp_seq_k (fun K1 hK1 => ?_)
  refine e_region (fun R hR => ?_)
  refine e_op H rfl rfl (by decide) (x_alloc H rfl (al_new (z26 _))) ?_
  clear H a; intro a H
  have D := Blk.new w0 26 (u8s (List.replicate 32 0))
  have Eb := (Ext.refl w0).al (.cells (u8s (List.replicate 32 0)).toArray 26)
  obtain ⟨gd, hgd⟩ : ∃ g, g = w0.heap.size := ⟨_, rfl⟩
  rw [← hgd] at H D
  have hswb := Eb.sz
  have hlgd := D.lt
  generalize w0.alloc (.cells (u8s (List.replicate 32 0)).toArray 26) = wb at *
  have Kb := K0.ext Eb
  replace hp := Eb.bs hp
  refine e_nil (hR.out _ _ ?_)
  clear hR R
  refine hK1 _ _ ?_
  clear hK1 K1
  refine wp_seq_k (fun K2 hK2 => ?_)
  refine e_region (fun R hR => ?_)
  refine e_callq H rfl rfl (by decide) rfl rfl (Tryd.call18 _) (new_any wb) ?_
  clear H a
  rintro e w1 ⟨g, rfl, HI, hg, EV⟩
  refine ⟨_, rfl, fun a H => ?_⟩
  have hsv := EV.sz
  have hgl := HI.lt
  refine e_op H rfl rfl (by decide) (x_assign H rfl rfl) ?_
  clear H a; intro a H
  refine e_nil (hR.out _ _ ?_)
  clear hR R
  refine hK2 _ _ ?_
  clear hK2 K2
  refine wp_seq_k (fun K3 hK3 => ?_)
  refine e_region (fun R hR => ?_)
  refine e_op H rfl rfl (by decide) (x_move H rfl rfl) ?_
  clear H a; intro a H
  obtain ⟨qZ, w2, hbZ, Z, EW, hqZ, EE⟩ := al1 EV (0 : UInt8) (i := 0) rfl
  refine e_op H rfl rfl (by decide) (x_buildSlice H rfl rfl hbZ) ?_
  clear H a; intro a H
  have hne : qZ ≠ g := by omega
  replace EV := EW
  replace HI := HI.ext EE
  clear EW EE
  replace hsv := EV.sz
  replace hgl := HI.lt
  refine e_callq H rfl rfl (by decide) rfl rfl (Tryd.call19 _) (write_any g [] [0] _ _ _ w2 HI ⟨Z.bs, Z.cap.1, Z.cap.2, fun b o e _ => by simp at e; omega⟩ (Kb.ext EV) (by omega) (by simp only [List.length_append, List.length_cons, List.length_nil]; omega)) ?_
  clear H a
  rintro e w3 ⟨rfl, HJ, FF⟩
  refine ⟨_, rfl, fun a H => ?_⟩
  replace EV := FF.ext EV (fun x hx => by simp only [List.mem_singleton] at hx; omega)
  replace HI := HJ
  clear HJ FF
  replace hsv := EV.sz
  replace hgl := HI.lt
  refine e_nil (hR.out _ _ ?_)
  clear hR R
  refine hK3 _ _ ?_
  clear hK3 K3
  refine wp_seq_k (fun K4 hK4 => ?_)
  refine e_region (fun R hR => ?_)
  refine e_op H rfl rfl (by decide) (x_move H rfl rfl) ?_
  clear H a; intro a H
  refine e_op H rfl rfl (by decide) (x_move H rfl rfl) ?_
  clear H a; intro a H
  refine e_callq H rfl rfl (by decide) rfl rfl (Tryd.call19 _) (write_any g ([] ++ [0]) p _ _ _ w3 HI ⟨EV.bs hp, hc, hn, fun b o e h0 => by obtain ⟨b2, o2, e2, h2⟩ := hp.cell 0 h0; rw [e] at e2; simp only [Option.some.injEq, Addr.mk.injEq] at e2; have := World.block_lt_of_cell? wb _ h2; simp only at this; omega⟩ (Kb.ext EV) (by omega) (by simp only [List.length_append, List.length_cons, List.length_nil]; omega)) ?_
  clear H a
  rintro e w4 ⟨rfl, HJ, FF⟩
  refine ⟨_, rfl, fun a H => ?_⟩
  replace EV := FF.ext EV (fun x hx => by simp only [List.mem_singleton] at hx; omega)
  replace HI := HJ
  clear HJ FF
  replace hsv := EV.sz
  replace hgl := HI.lt
  refine e_nil (hR.out _ _ ?_)
  clear hR R
  refine hK4 _ _ ?_
  clear hK4 K4
  refine wp_seq_k (fun K5 hK5 => ?_)
  refine e_region (fun R hR => ?_)
  refine e_op H rfl rfl (by decide) (x_move H rfl rfl) ?_
  clear H a; intro a H
  refine e_callq H rfl rfl (by decide) rfl rfl (Tryd.call21 _) (sum_any g ([] ++ [0] ++ p) w4 HI (Kb.ext EV) (by omega) (by have := hp.leng; simp only [List.length_append, List.length_cons, List.length_nil]; omega)) ?_
  clear H a
  rintro e w5 ⟨rfl, EE⟩
  refine ⟨_, rfl, fun a H => ?_⟩
  replace EV := EV.tr EE
  have DC := D.ext EV
  have EZ := Eb.tr EV
  refine e_st H rfl rfl (x_store H rfl rfl rfl (st_row DC (by rw [size_sha]; kernel_rfl) (by rw [size_sha]; rfl) (one_u8 _))) ?_
  refine e_nil (hR.out _ _ ?_)
  clear hR R
  refine hK5 _ _ ?_
  clear hK5 K5
  refine wp_ret ?_
  exact retc H rfl rfl (setRow_heap _ _ _ _ 26 (0, 0) DC) Tryd.underlying26 rfl (by rw [size_sha]; kernel_rfl) ⟨rfl, EZ.row_ (by omega) _⟩
theorem pair_any (x y : List UInt8) (hx : x.length = 32) (hy : y.length = 32) (w0 : World) (K0 : Kc w0) (h0 : 0 < w0.heap.size) :
    Calls Tryd.prog 28 #[.agg (u8s x).toArray, .agg (u8s y).toArray] w0 fun e w' => e = .returned (.agg (u8s (sha ([] ++ [1] ++ x ++ y))).toArray) ∧ Ext w0 w' := by
  refine calls_has (args := [.agg (u8s x).toArray, .agg (u8s y).toArray]) Tryd.func28 rfl Tryd.ntmps28 (Nat.le_of_ble_eq_true rfl) (fun a H => ?_)
  simp only [argl, Nat.reduceAdd] at H
  refine wp_seq_k (fun K1 hK1 => ?_)
  refine e_region (fun R hR => ?_)
  refine e_op H rfl rfl (by decide) (x_box H rfl rfl bx_new) ?_
  clear H a; intro a H
  have T2 := Blk.new w0 26 (u8s x)
  have Ex := (Ext.refl w0).al (.cells (u8s x).toArray 26)
  obtain ⟨g2, hg2⟩ : ∃ g, g = w0.heap.size := ⟨_, rfl⟩
  rw [← hg2] at H T2
  have hswx := Ex.sz
  have hlg2 := T2.lt
  generalize w0.alloc (.cells (u8s x).toArray 26) = wx at *
  refine e_op H rfl rfl (by decide) (x_box H rfl rfl bx_new) ?_
  clear H a; intro a H
  have T3 := Blk.new wx 26 (u8s y)
  have Ey := Ex.al (.cells (u8s y).toArray 26)
  replace T2 := T2.alloc (.cells (u8s y).toArray 26)
  obtain ⟨g3, hg3⟩ : ∃ g, g = wx.heap.size := ⟨_, rfl⟩
  rw [← hg3] at H T3
  have hswy := Ey.sz
  have hlg3 := T3.lt
  generalize wx.alloc (.cells (u8s y).toArray 26) = wy at *
  refine e_op H rfl rfl (by decide) (x_alloc H rfl (al_new (z26 _))) ?_
  clear H a; intro a H
  have D := Blk.new wy 26 (u8s (List.replicate 32 0))
  have Eb := Ey.al (.cells (u8s (List.replicate 32 0)).toArray 26)
  replace T2 := T2.alloc (.cells (u8s (List.replicate 32 0)).toArray 26)
  replace T3 := T3.alloc (.cells (u8s (List.replicate 32 0)).toArray 26)
  obtain ⟨gd, hgd⟩ : ∃ g, g = wy.heap.size := ⟨_, rfl⟩
  rw [← hgd] at H D
  have hswb := Eb.sz
  have hlgd := D.lt
  generalize wy.alloc (.cells (u8s (List.replicate 32 0)).toArray 26) = wb at *
  have Kb := K0.ext Eb
  refine e_nil (hR.out _ _ ?_)
  clear hR R
  refine hK1 _ _ ?_
  clear hK1 K1
  refine wp_seq_k (fun K2 hK2 => ?_)
  refine e_region (fun R hR => ?_)
  refine e_callq H rfl rfl (by decide) rfl rfl (Tryd.call18 _) (new_any wb) ?_
  clear H a
  rintro e w1 ⟨g, rfl, HI, hg, EV⟩
  refine ⟨_, rfl, fun a H => ?_⟩
  have hsv := EV.sz
  have hgl := HI.lt
  refine e_op H rfl rfl (by decide) (x_assign H rfl rfl) ?_
  clear H a; intro a H
  refine e_nil (hR.out _ _ ?_)
  clear hR R
  refine hK2 _ _ ?_
  clear hK2 K2
  refine wp_seq_k (fun K3 hK3 => ?_)
  refine e_region (fun R hR => ?_)
  refine e_op H rfl rfl (by decide) (x_move H rfl rfl) ?_
  clear H a; intro a H
  obtain ⟨qZ, w2, hbZ, Z, EW, hqZ, EE⟩ := al1 EV (1 : UInt8) (i := 1) rfl
  refine e_op H rfl rfl (by decide) (x_buildSlice H rfl rfl hbZ) ?_
  clear H a; intro a H
  have hne : qZ ≠ g := by omega
  replace EV := EW
  replace HI := HI.ext EE
  clear EW EE
  replace hsv := EV.sz
  replace hgl := HI.lt
  refine e_callq H rfl rfl (by decide) rfl rfl (Tryd.call19 _) (write_any g [] [1] _ _ _ w2 HI ⟨Z.bs, Z.cap.1, Z.cap.2, fun b o e _ => by simp at e; omega⟩ (Kb.ext EV) (by omega) (by simp only [List.length_append, List.length_cons, List.length_nil]; omega)) ?_
  clear H a
  rintro e w3 ⟨rfl, HJ, FF⟩
  refine ⟨_, rfl, fun a H => ?_⟩
  replace EV := FF.ext EV (fun x hx => by simp only [List.mem_singleton] at hx; omega)
  replace HI := HJ
  clear HJ FF
  replace hsv := EV.sz
  replace hgl := HI.lt
  refine e_nil (hR.out _ _ ?_)
  clear hR R
  refine hK3 _ _ ?_
  clear hK3 K3
  refine wp_seq_k (fun K4 hK4 => ?_)
  refine e_region (fun R hR => ?_)
  refine e_op H rfl rfl (by decide) (x_move H rfl rfl) ?_
  clear H a; intro a H
  refine e_op H rfl rfl (by decide) (x_slice H rfl rfl rfl rfl (sl_arr_all Tryd.underlying26 Tryd.sizeOf5 (by omega))) ?_
  clear H a; intro a H
  refine e_callq H rfl rfl (by decide) rfl rfl (Tryd.call19 _) (write_any g ([] ++ [1]) x _ _ _ w3 HI ⟨(T2.ext EV).bs hx, Nat.le_refl _, (fun h => by cases h), fun b o e _ => by simp at e; omega⟩ (Kb.ext EV) (by omega) (by simp only [List.length_append, List.length_cons, List.length_nil]; omega)) ?_
  clear H a
  rintro e w4 ⟨rfl, HJ, FF⟩
  refine ⟨_, rfl, fun a H => ?_⟩
  replace EV := FF.ext EV (fun x hx => by simp only [List.mem_singleton] at hx; omega)
  replace HI := HJ
  clear HJ FF
  replace hsv := EV.sz
  replace hgl := HI.lt
  refine e_nil (hR.out _ _ ?_)
  clear hR R
  refine hK4 _ _ ?_
  clear hK4 K4
  refine wp_seq_k (fun K5 hK5 => ?_)
  refine e_region (fun R hR => ?_)
  refine e_op H rfl rfl (by decide) (x_move H rfl rfl) ?_
  clear H a; intro a H
  refine e_op H rfl rfl (by decide) (x_slice H rfl rfl rfl rfl (sl_arr_all Tryd.underlying26 Tryd.sizeOf5 (by omega))) ?_
  clear H a; intro a H
  refine e_callq H rfl rfl (by decide) rfl rfl (Tryd.call19 _) (write_any g ([] ++ [1] ++ x) y _ _ _ w4 HI ⟨(T3.ext EV).bs hy, Nat.le_refl _, (fun h => by cases h), fun b o e _ => by simp at e; omega⟩ (Kb.ext EV) (by omega) (by simp only [List.length_append, List.length_cons, List.length_nil]; omega)) ?_
  clear H a
  rintro e w5 ⟨rfl, HJ, FF⟩
  refine ⟨_, rfl, fun a H => ?_⟩
  replace EV := FF.ext EV (fun x hx => by simp only [List.mem_singleton] at hx; omega)
  replace HI := HJ
  clear HJ FF
  replace hsv := EV.sz
  replace hgl := HI.lt
  refine e_nil (hR.out _ _ ?_)
  clear hR R
  refine hK5 _ _ ?_
  clear hK5 K5
  refine wp_seq_k (fun K6 hK6 => ?_)
  refine e_region (fun R hR => ?_)
  refine e_op H rfl rfl (by decide) (x_move H rfl rfl) ?_
  clear H a; intro a H
  refine e_callq H rfl rfl (by decide) rfl rfl (Tryd.call21 _) (sum_any g ([] ++ [1] ++ x ++ y) w5 HI (Kb.ext EV) (by omega) (by simp only [List.length_append, List.length_cons, List.length_nil]; omega)) ?_
  clear H a
  rintro e w6 ⟨rfl, EE⟩
  refine ⟨_, rfl, fun a H => ?_⟩
  replace EV := EV.tr EE
  have DC := D.ext EV
  have EZ := Eb.tr EV
  refine e_st H rfl rfl (x_store H rfl rfl rfl (st_row DC (by rw [size_sha]; kernel_rfl) (by rw [size_sha]; rfl) (one_u8 _))) ?_
  refine e_nil (hR.out _ _ ?_)
  clear hR R
  refine hK6 _ _ ?_
  clear hK6 K6
  refine wp_ret ?_
  exact retc H rfl rfl (setRow_heap _ _ _ _ 26 (0, 0) DC) Tryd.underlying26 rfl (by rw [size_sha]; kernel_rfl) ⟨rfl, EZ.row_ (by omega) _⟩
theorem parts_any (ad : Option Addr) (m c : Nat) (ls : List (List UInt8)) (w0 : World) (hl : Ls w0 ad m ls) (hm : m ≤ 8) (h60 : ∀ y ∈ ls, y.length ≤ 60) (K0 : Kc w0) (h0 : 0 < w0.heap.size) :
    Calls Tryd.prog 26 #[.slice ad m c] w0 fun e w' => e = .returned (.agg (u8s (sha (cat ls))).toArray) ∧ Ext w0 w' := by
  refine calls_has (args := [.slice ad m c]) Tryd.func26 rfl Tryd.ntmps26 (Nat.le_of_ble_eq_true rfl) (fun a H => ?_)
  simp only [argl, Nat.reduceAdd] at H
  refine wp_seq_k (fun K1 hK1 => ?_)
  refine e_region (fun R hR => ?_)
  refine e_op H rfl rfl (by decide) (x_alloc H rfl (al_new (z26 _))) ?_
  clear H a; intro a H
  have D := Blk.new w0 26 (u8s (List.replicate 32 0))
  have Eb := (Ext.refl w0).al (.cells (u8s (List.replicate 32 0)).toArray 26)
  obtain ⟨gd, hgd⟩ : ∃ g, g = w0.heap.size := ⟨_, rfl⟩
  rw [← hgd] at H D
  have hswb := Eb.sz
  have hlgd := D.lt
  generalize w0.alloc (.cells (u8s (List.replicate 32 0)).toArray 26) = wb at *
  have Kb := K0.ext Eb
  replace hl := Eb.ls hl
  have hll := hl.leng
  refine e_nil (hR.out _ _ ?_)
  clear hR R
  refine hK1 _ _ ?_
  clear hK1 K1
  refine wp_seq_k (fun K2 hK2 => ?_)
  refine e_region (fun R hR => ?_)
  refine e_callq H rfl rfl (by decide) rfl rfl (Tryd.call18 _) (new_any wb) ?_
  clear H a
  rintro e w1 ⟨g, rfl, HI, hg, EV⟩
  refine ⟨_, rfl, fun a H => ?_⟩
  have hsv := EV.sz
  have hgl := HI.lt
  refine e_op H rfl rfl (by decide) (x_assign H rfl rfl) ?_
  clear H a; intro a H
  refine e_nil (hR.out _ _ ?_)
  clear hR R
  refine hK2 _ _ ?_
  clear hK2 K2
  refine wp_seq_k (fun K3 hK3 => ?_)
  refine wp_seq_k (fun K4 hK4 => ?_)
  refine e_region (fun R hR => ?_)
  refine e_op H rfl rfl (by decide) (x_move H rfl rfl) ?_
  clear H a; intro a H
  refine e_op H rfl rfl (by decide) (x_builtin H rfl rfl (fun cs => len_sl Tryd.underlying43)) ?_
  clear H a; intro a H
  refine e_op H rfl rfl (by decide) (x_move H rfl rfl) ?_
  clear H a; intro a H
  refine e_nil (hR.out _ _ ?_)
  clear hR R
  refine hK4 _ _ ?_
  clear hK4 K4
  refine wp_block ?_
  refine wp_loop_ghost (fun n a w => ∃ k : Nat, k ≤ m ∧ n = m - k ∧ Has a 25 [(2, .pointer (some ⟨gd, 0, none⟩)), (3, .pointer (some ⟨g, 0, none⟩)), (7, .slice ad m c), (8, .int .i64 (m : Int)), (9, .int .i64 (k : Int))] ∧ HashIs w g (cat (ls.take k)) ∧ Ext wb w) (m) ?_ ?_
  · skip
    exact ⟨0, by omega, rfl, H.sub ⟨rfl, rfl, rfl, rfl, rfl, trivial⟩, HI, EV⟩
  · skip
    clear H a HI EV hsv hgl
    intro n a w hI
    obtain ⟨k, hk, rfl, H, HI, EV⟩ := hI
    have hsv := EV.sz
    have hgl := HI.lt
    rcases Nat.lt_or_ge k m with hlt | hge
    · skip
      obtain ⟨y, hy⟩ : ∃ y, ls[k]? = some y := ⟨_, List.getElem?_eq_getElem (by omega)⟩
      obtain ⟨b, off, ay, ny, cy, rfl, hcy, hby, hcc, hny, hnb⟩ := hl.at k hlt
      rw [hy, Option.getD_some] at hby
      have hyl := hby.leng
      have hy60 := h60 y (List.mem_of_getElem? hy)
      have hck := cat_take h60 k
      have hcs := cat_succ hy
      refine wp_seq_k (fun K5 hK5 => ?_)
      refine e_region (fun R hR => ?_)
      refine e_op H rfl rfl (by decide) (x_binI H rfl rfl rfl (b_lss (b := true) (dec_t (by omega)))) ?_
      clear H a; intro a H
      refine e_nil (hR.out _ _ ?_)
      clear hR R
      refine hK5 _ _ ?_
      clear hK5 K5
      refine wp_seq_k (fun K6 hK6 => ?_)
      refine c_true H rfl ?_
      refine wp_skip ?_
      refine hK6 _ _ ?_
      clear hK6 K6
      refine wp_seq_k (fun K7 hK7 => ?_)
      refine wp_block ?_
      refine wp_seq_k (fun K8 hK8 => ?_)
      refine e_region (fun R hR => ?_)
      refine e_op H rfl rfl (by decide) (x_indexAddr H rfl rfl rfl (i_sl (m := k) Tryd.underlying43 Tryd.sizeOf22 (rfl) (hlt))) ?_
      clear H a; intro a H
      refine e_op H rfl rfl (by decide) (x_load H rfl rfl (l_cell Tryd.isAgg22 (EV.cell hcy))) ?_
      clear H a; intro a H
      refine e_op H rfl rfl (by decide) (x_assign H rfl rfl) ?_
      clear H a; intro a H
      refine e_nil (hR.out _ _ ?_)
      clear hR R
      refine hK8 _ _ ?_
      clear hK8 K8
      refine wp_seq_k (fun K9 hK9 => ?_)
      refine e_region (fun R hR => ?_)
      refine e_op H rfl rfl (by decide) (x_move H rfl rfl) ?_
      clear H a; intro a H
      refine e_op H rfl rfl (by decide) (x_move H rfl rfl) ?_
      clear H a; intro a H
      refine e_op H rfl rfl (by decide) (x_builtin H rfl rfl (fun cs => len_sl Tryd.underlying22)) ?_
      clear H a; intro a H
      refine e_op H rfl rfl (by decide) (x_conv H rfl rfl (c_int (z := (ny : Int)) Tryd.underlying3 Tryd.underlying39 (wrap_u64_small _ (by omega) (by omega)))) ?_
      clear H a; intro a H
      refine e_callq H rfl rfl (by decide) rfl rfl (Tryd.call44 _) (eight_any ny w (by omega)) ?_
      clear H a
      rintro e w2 ⟨g8, rfl, P8, hg8, EE⟩
      refine ⟨_, rfl, fun a H => ?_⟩
      replace EV := EV.tr EE
      have hne : g8 ≠ g := by omega
      replace HI := HI.ext EE
      clear EE
      replace hsv := EV.sz
      replace hgl := HI.lt
      refine e_callq H rfl rfl (by decide) rfl rfl (Tryd.call19 _) (write_any g _ (be8 ny) _ _ _ w2 HI ⟨P8.bs (be8_len8 _), Nat.le_refl _, (fun h => by cases h), fun b o e _ => by simp at e; omega⟩ (Kb.ext EV) (by omega) (by omega)) ?_
      clear H a
      rintro e w3 ⟨rfl, HJ, FF⟩
      refine ⟨_, rfl, fun a H => ?_⟩
      replace EV := FF.ext EV (fun x hx => by simp only [List.mem_singleton] at hx; omega)
      replace HI := HJ
      clear HJ FF
      replace hsv := EV.sz
      replace hgl := HI.lt
      refine e_nil (hR.out _ _ ?_)
      clear hR R
      refine hK9 _ _ ?_
      clear hK9 K9
      refine e_region (fun R hR => ?_)
      refine e_op H rfl rfl (by decide) (x_move H rfl rfl) ?_
      clear H a; intro a H
      refine e_op H rfl rfl (by decide) (x_move H rfl rfl) ?_
      clear H a; intro a H
      refine e_callq H rfl rfl (by decide) rfl rfl (Tryd.call19 _) (write_any g _ y _ _ _ w3 HI ⟨EV.bs hby, hcc, hny, fun b o e h0 => by obtain ⟨b2, o2, e2, h2⟩ := hby.cell 0 h0; rw [e] at e2; simp only [Option.some.injEq, Addr.mk.injEq] at e2; have := World.block_lt_of_cell? wb _ h2; simp only at this; omega⟩ (Kb.ext EV) (by omega) (by rw [List.length_append, be8_len8]; omega)) ?_
      clear H a
      rintro e w4 ⟨rfl, HJ, FF⟩
      refine ⟨_, rfl, fun a H => ?_⟩
      replace EV := FF.ext EV (fun x hx => by simp only [List.mem_singleton] at hx; omega)
      replace HI := HJ
      clear HJ FF
      replace hsv := EV.sz
      replace hgl := HI.lt
      refine e_nil (hR.out _ _ ?_)
      clear hR R
      refine hK7 _ _ ?_
      clear hK7 K7
      refine e_region (fun R hR => ?_)
      refine e_op H rfl rfl (by decide) (x_binI H rfl rfl rfl (b_add (z := ((k + 1 : Nat) : Int)) (by rw [IntKind.wrap_i64]; omega))) ?_
      clear H a; intro a H
      refine e_op H rfl rfl (by decide) (x_move H rfl rfl) ?_
      clear H a; intro a H
      refine e_nil (hR.out _ _ ?_)
      clear hR R
      rw [← hyl, ← hcs] at HI
      exact ⟨m - (k + 1), by omega, k + 1, by omega, rfl, H.sub ⟨rfl, rfl, rfl, rfl, rfl, trivial⟩, HI, EV⟩
    · skip
      rw [List.take_of_length_le (by omega)] at HI
      have hcl := cat_len ls h60
      refine wp_seq_k (fun K10 hK10 => ?_)
      refine e_region (fun R hR => ?_)
      refine e_op H rfl rfl (by decide) (x_binI H rfl rfl rfl (b_lss (b := false) (dec_f (by omega)))) ?_
      clear H a; intro a H
      refine e_nil (hR.out _ _ ?_)
      clear hR R
      refine hK10 _ _ ?_
      clear hK10 K10
      refine wp_seq_k (fun K11 hK11 => ?_)
      refine c_false H rfl ?_
      refine wp_exit ?_
      refine t_exit ?_
      refine t_exit ?_
      refine b_hit ?_
      clear hK11 K11
      refine hK3 _ _ ?_
      clear hK3 K3
      refine wp_seq_k (fun K12 hK12 => ?_)
      refine e_region (fun R hR => ?_)
      refine e_op H rfl rfl (by decide) (x_move H rfl rfl) ?_
      clear H a; intro a H
      refine e_callq H rfl rfl (by decide) rfl rfl (Tryd.call21 _) (sum_any g _ w HI (Kb.ext EV) (by omega) (by omega)) ?_
      clear H a
      rintro e w5 ⟨rfl, EE⟩
      refine ⟨_, rfl, fun a H => ?_⟩
      replace EV := EV.tr EE
      have DC := D.ext EV
      have EZ := Eb.tr EV
      refine e_st H rfl rfl (x_store H rfl rfl rfl (st_row DC (by rw [size_sha]; kernel_rfl) (by rw [size_sha]; rfl) (one_u8 _))) ?_
      refine e_nil (hR.out _ _ ?_)
      clear hR R
      refine hK12 _ _ ?_
      clear hK12 K12
      refine wp_ret ?_
      exact retc H rfl rfl (setRow_heap _ _ _ _ 26 (0, 0) DC) Tryd.underlying26 rfl (by rw [size_sha]; kernel_rfl) ⟨rfl, EZ.row_ (by omega) _⟩
theorem refparts_any (ad : Option Addr) (m c : Nat) (ls : List (List UInt8)) (w0 : World) (hl : Ls w0 ad m ls) (hm : m ≤ 8) (h60 : ∀ y ∈ ls, y.length ≤ 60) :
    Calls Tryd.prog 27 #[.slice ad m c] w0 fun e w' => e = .returned (.agg (u8s (sha (cat ls))).toArray) ∧ Ext w0 w' := by
  refine calls_has (args := [.slice ad m c]) Tryd.func27 rfl Tryd.ntmps27 (Nat.le_of_ble_eq_true rfl) (fun a H => ?_)
  simp only [argl, Nat.reduceAdd] at H
  refine wp_seq_k (fun K1 hK1 => ?_)
  refine e_region (fun R hR => ?_)
  refine e_op H rfl rfl (by decide) (x_alloc H rfl (al_new (z25 _))) ?_
  clear H a; intro a H
  have D := Blk.new w0 25 (u8s (List.replicate 32 0))
  have Eb := (Ext.refl w0).al (.cells (u8s (List.replicate 32 0)).toArray 25)
  obtain ⟨gd, hgd⟩ : ∃ g, g = w0.heap.size := ⟨_, rfl⟩
  rw [← hgd] at H D
  have hswb := Eb.sz
  have hlgd := D.lt
  generalize w0.alloc (.cells (u8s (List.replicate 32 0)).toArray 25) = wb at *
  replace hl := Eb.ls hl
  have hll := hl.leng
  refine e_nil (hR.out _ _ ?_)
  clear hR R
  refine hK1 _ _ ?_
  clear hK1 K1
  refine wp_seq_k (fun K2 hK2 => ?_)
  refine e_region (fun R hR => ?_)
  refine e_op H rfl rfl (by decide) (x_assign H rfl rfl) ?_
  clear H a; intro a H
  refine e_nil (hR.out _ _ ?_)
  clear hR R
  refine hK2 _ _ ?_
  clear hK2 K2
  refine wp_seq_k (fun K3 hK3 => ?_)
  refine wp_seq_k (fun K4 hK4 => ?_)
  refine e_region (fun R hR => ?_)
  refine e_op H rfl rfl (by decide) (x_move H rfl rfl) ?_
  clear H a; intro a H
  refine e_op H rfl rfl (by decide) (x_builtin H rfl rfl (fun cs => len_sl Tryd.underlying43)) ?_
  clear H a; intro a H
  refine e_op H rfl rfl (by decide) (x_move H rfl rfl) ?_
  clear H a; intro a H
  refine e_nil (hR.out _ _ ?_)
  clear hR R
  refine hK4 _ _ ?_
  clear hK4 K4
  refine wp_block ?_
  refine wp_loop_ghost (fun n a w => ∃ (k L : Nat) (a3 : Option Addr) (c3 : Nat), k ≤ m ∧ n = m - k ∧ Has a 23 [(2, .pointer (some ⟨gd, 0, none⟩)), (3, .slice a3 L c3), (6, .slice ad m c), (7, .int .i64 (m : Int)), (8, .int .i64 (k : Int))] ∧ Ow w wb.heap.size a3 L c3 (cat (ls.take k)) ∧ Ext wb w) (m) ?_ ?_
  · skip
    exact ⟨0, 0, none, 0, by omega, rfl, H.sub ⟨rfl, rfl, rfl, rfl, rfl, trivial⟩, ownNil _ _, Ext.refl wb⟩
  · skip
    clear H a
    intro n a w hI
    obtain ⟨k, L, a3, c3, hk, rfl, H, O, EV⟩ := hI
    have hsv := EV.sz
    have hOl := O.leng
    rcases Nat.lt_or_ge k m with hlt | hge
    · skip
      obtain ⟨y, hy⟩ : ∃ y, ls[k]? = some y := ⟨_, List.getElem?_eq_getElem (by omega)⟩
      obtain ⟨b, off, ay, ny, cy, rfl, hcy, hby, hcc, hny, hnb⟩ := hl.at k hlt
      rw [hy, Option.getD_some] at hby
      have hyl := hby.leng
      have hy60 := h60 y (List.mem_of_getElem? hy)
      have hck := cat_take h60 k
      have hcs := cat_succ hy
      refine wp_seq_k (fun K5 hK5 => ?_)
      refine e_region (fun R hR => ?_)
      refine e_op H rfl rfl (by decide) (x_binI H rfl rfl rfl (b_lss (b := true) (dec_t (by omega)))) ?_
      clear H a; intro a H
      refine e_nil (hR.out _ _ ?_)
      clear hR R
      refine hK5 _ _ ?_
      clear hK5 K5
      refine wp_seq_k (fun K6 hK6 => ?_)
      refine c_true H rfl ?_
      refine wp_skip ?_
      refine hK6 _ _ ?_
      clear hK6 K6
      refine wp_seq_k (fun K7 hK7 => ?_)
      refine wp_block ?_
      refine wp_seq_k (fun K8 hK8 => ?_)
      refine e_region (fun R hR => ?_)
      refine e_op H rfl rfl (by decide) (x_indexAddr H rfl rfl rfl (i_sl (m := k) Tryd.underlying43 Tryd.sizeOf22 (rfl) (hlt))) ?_
      clear H a; intro a H
      refine e_op H rfl rfl (by decide) (x_load H rfl rfl (l_cell Tryd.isAgg22 (EV.cell hcy))) ?_
      clear H a; intro a H
      refine e_op H rfl rfl (by decide) (x_assign H rfl rfl) ?_
      clear H a; intro a H
      refine e_nil (hR.out _ _ ?_)
      clear hR R
      refine hK8 _ _ ?_
      clear hK8 K8
      refine e_region (fun R hR => ?_)
      refine e_op H rfl rfl (by decide) (x_move H rfl rfl) ?_
      clear H a; intro a H
      refine e_op H rfl rfl (by decide) (x_move H rfl rfl) ?_
      clear H a; intro a H
      refine e_op H rfl rfl (by decide) (x_builtin H rfl rfl (fun cs => len_sl Tryd.underlying22)) ?_
      clear H a; intro a H
      refine e_op H rfl rfl (by decide) (x_conv H rfl rfl (c_int (z := (ny : Int)) Tryd.underlying3 Tryd.underlying39 (wrap_u64_small _ (by omega) (by omega)))) ?_
      clear H a; intro a H
      refine e_callq H rfl rfl (by decide) rfl rfl (Tryd.call46 _) (long_any ny w (by omega)) ?_
      clear H a
      rintro e w2 ⟨g8, rfl, P8, hg8, EE⟩
      refine ⟨_, rfl, fun a H => ?_⟩
      replace EV := EV.tr EE
      replace O := EE.row O
      replace O : Ow w2 wb.heap.size a3 L c3 (cat (ls.take k)) := O
      clear EE
      obtain ⟨a4, c4, w4, hr4, O4, E4⟩ := ap1 EV O (P8.bs (be8_len8 _)) (cx := 8) (fun h => by cases h) (by omega)
      obtain ⟨a5, c5, w5, hr5, O5, E5⟩ := ap1 E4 O4 (E4.bs hby) hny (by omega)
      refine e_op H rfl rfl (by decide) (x_builtin H rfl rfl (fun cs => bi_app hr4)) ?_
      clear H a; intro a H
      refine e_op H rfl rfl (by decide) (x_move H rfl rfl) ?_
      clear H a; intro a H
      refine e_op H rfl rfl (by decide) (x_builtin H rfl rfl (fun cs => bi_app hr5)) ?_
      clear H a; intro a H
      refine e_op H rfl rfl (by decide) (x_assign H rfl rfl) ?_
      clear H a; intro a H
      refine e_nil (hR.out _ _ ?_)
      clear hR R
      refine hK7 _ _ ?_
      clear hK7 K7
      refine e_region (fun R hR => ?_)
      refine e_op H rfl rfl (by decide) (x_binI H rfl rfl rfl (b_add (z := ((k + 1 : Nat) : Int)) (by rw [IntKind.wrap_i64]; omega))) ?_
      clear H a; intro a H
      refine e_op H rfl rfl (by decide) (x_move H rfl rfl) ?_
      clear H a; intro a H
      refine e_nil (hR.out _ _ ?_)
      clear hR R
      rw [← hyl, ← hcs, hyl] at O5
      exact ⟨m - (k + 1), by omega, k + 1, L + 8 + ny, a5, c5, by omega, rfl, H.sub ⟨rfl, rfl, rfl, rfl, rfl, trivial⟩, O5, E5⟩
    · skip
      rw [List.take_of_length_le (by omega)] at O hOl
      have hcl := cat_len ls h60
      refine wp_seq_k (fun K9 hK9 => ?_)
      refine e_region (fun R hR => ?_)
      refine e_op H rfl rfl (by decide) (x_binI H rfl rfl rfl (b_lss (b := false) (dec_f (by omega)))) ?_
      clear H a; intro a H
      refine e_nil (hR.out _ _ ?_)
      clear hR R
      refine hK9 _ _ ?_
      clear hK9 K9
      refine wp_seq_k (fun K10 hK10 => ?_)
      refine c_false H rfl ?_
      refine wp_exit ?_
      refine t_exit ?_
      refine t_exit ?_
      refine b_hit ?_
      clear hK10 K10
      refine hK3 _ _ ?_
      clear hK3 K3
      refine wp_seq_k (fun K11 hK11 => ?_)
      refine e_region (fun R hR => ?_)
      refine e_op H rfl rfl (by decide) (x_move H rfl rfl) ?_
      clear H a; intro a H
      refine e_callq H rfl rfl (by decide) rfl rfl (Tryd.call17 _) (refsum_any a3 L c3 (cat ls) w O.bs O.cap.2 (by omega)) ?_
      clear H a
      rintro e w5 ⟨rfl, EE⟩
      refine ⟨_, rfl, fun a H => ?_⟩
      replace EV := EV.tr EE
      have DC := D.ext EV
      have EZ := Eb.tr EV
      refine e_st H rfl rfl (x_store H rfl rfl rfl (st_row DC (by rw [size_sha]; kernel_rfl) (by rw [size_sha]; rfl) (one_u8 _))) ?_
      refine e_nil (hR.out _ _ ?_)
      clear hR R
      refine hK11 _ _ ?_
      clear hK11 K11
      refine wp_ret ?_
      exact retc H rfl rfl (setRow_heap _ _ _ _ 25 (0, 0) DC) Tryd.underlying25 rfl (by rw [size_sha]; kernel_rfl) ⟨rfl, EZ.row_ (by omega) _⟩
end Go.Proofs.YtknllmcpogoeoaaDoor
