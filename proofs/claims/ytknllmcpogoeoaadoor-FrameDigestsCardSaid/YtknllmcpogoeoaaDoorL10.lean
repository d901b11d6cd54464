/- FrameDigests, walked. -/
import Derived.Test.YtknllmcpogoeoaaDoorL8
import Derived.Test.YtknllmcpogoeoaaDoorL3c
import Derived.Test.YtknllmcpogoeoaaDoorAw
namespace Go.Proofs.YtknllmcpogoeoaaDoor
open Go.RowKit
set_option linter.unusedVariables false
set_option linter.unusedSimpArgs false
set_option maxRecDepth 100000
theorem fileOf_cons (x : List UInt8) (r : List (List UInt8)) : fileOf (x :: r) = frameOf x ++ fileOf r := by simp [fileOf]
theorem fileOf_append (a b : List (List UInt8)) : fileOf (a ++ b) = fileOf a ++ fileOf b := by simp [fileOf]
/-- the bodies of a file, and what follows -/
theorem scan_file : ∀ (ls : List (List UInt8)) (off : Nat) (r : List UInt8), (∀ x ∈ ls, x.length ≤ 4000) →
    bodL (scanP off (fileOf ls ++ r)) = ls ++ bodL (scanP (off + (fileOf ls).length) r) ∧ lostL (scanP off (fileOf ls ++ r)) = lostL (scanP (off + (fileOf ls).length) r)
  | [], off, r, _ => by simp [fileOf]
  | x :: ls, off, r, h => by
    have ih := scan_file ls (off + (8 + x.length)) r (fun y hy => h y (by simp [hy]))
    rw [fileOf_cons, List.append_assoc, scanP_frame off x _ (h x (by simp)), bodL_cons, lostL_cons, ih.1, ih.2, List.length_append, frameOf_len]
    rw [Nat.add_assoc off (8 + x.length)]
    exact ⟨rfl, by simp⟩
theorem scan_whole (ls : List (List UInt8)) (h : ∀ x ∈ ls, x.length ≤ 4000) : bodL (scanP 0 (fileOf ls)) = ls ∧ lostL (scanP 0 (fileOf ls)) = 0 := by
  have := scan_file ls 0 [] h
  rw [List.append_nil] at this
  rw [this.1, this.2, scanP_nil]
  simp [bodL, lostL]
theorem fewS_all (ls : List (List UInt8)) : ∀ x ∈ fewS ls, x.length ≤ 60 := fun x hx => by
  unfold fewS at hx
  obtain ⟨y, _, rfl⟩ := List.mem_map.1 hx
  rw [List.length_take]; omega
theorem fewS_len (ls : List (List UInt8)) : (fewS ls).length ≤ 8 := by
  unfold fewS
  rw [List.length_map, List.length_take]; omega
theorem file_len60 (ls : List (List UInt8)) (h : ∀ x ∈ ls, x.length ≤ 60) : (fileOf ls).length ≤ 68 * ls.length := by
  induction ls with
  | nil => simp [fileOf]
  | cons x r ih =>
    have h1 := ih (fun y hy => h y (by simp [hy]))
    have h2 := h x (by simp)
    rw [fileOf_cons, List.length_append, frameOf_len, List.length_cons]
    omega
/-- what the bodies' slice reads as -/
theorem bod_ls {l : List UInt8} {w : World} {B : Nat} {a : Option Addr} {c : Nat} {rows : List (Value × List UInt8)} {bs : List (List UInt8)} (V : Vrow w B a c rows) (h : rows.map (·.2) = bs) (hb : ∀ x ∈ bs, x.length ≤ 140737488351232) :
    Ls w a bs.length bs ∧ rows.length = bs.length := by
  have hr : rows.length = bs.length := by rw [← h, List.length_map]
  have L := V.ls (fun r hr => hb _ (by rw [← h]; exact List.mem_map_of_mem hr))
  rw [h, hr] at L
  exact ⟨L, hr⟩
/-- bytes without a frame's first byte, ahead of a file: they are lost, the file is read -/
theorem scan_behind (bf : List UInt8) (F : List (List UInt8)) (hb : ∀ x ∈ bf, x ≠ 165) (h4 : ∀ x ∈ F, x.length ≤ 4000) :
    bodL (scanP 0 (bf ++ fileOf F)) = F ∧ lostL (scanP 0 (bf ++ fileOf F)) = bf.length := by
  cases bf with
  | nil => exact scan_whole F h4
  | cons y r =>
    have hst : ∀ j, j < (y :: r).length → stb ((y :: r ++ fileOf F).drop j) = false := by
      intro j hj
      rw [List.drop_append_of_le_length (by omega), List.drop_eq_getElem_cons hj]
      exact stb_cons_ne (hb _ (List.getElem_mem hj))
    have hend : (y :: r).length = (y :: r ++ fileOf F).length ∨ stb ((y :: r ++ fileOf F).drop (y :: r).length) = true := by
      rw [List.drop_left]
      cases F with
      | nil => left; simp [fileOf]
      | cons f fs => right; rw [fileOf_cons]; exact (frame_stands f _ (h4 f (List.mem_cons_self ..))).1
    have hj : junk (y :: r ++ fileOf F) = (y :: r).length := junk_eq _ _ (by rw [List.length_append]; omega) hst hend
    have hs0 := hst 0 (by simp)
    rw [List.drop_zero] at hs0
    rw [scanP_bad (by simp) hs0, hj, List.drop_left, bodL_cons, lostL_cons]
    have := scan_file F (0 + (y :: r).length) [] h4
    rw [List.append_nil] at this
    rw [this.1, this.2, scanP_nil]
    simp [bodL, lostL]
set_option maxHeartbeats 1000000 in
theorem frameDigests_any (ad aj : Option Addr) (m c mj cj : Nat) (ls : List (List UInt8)) (q : List UInt8) (W : World) (hl : Ls W ad m ls) (hq : Bs W aj mj q) (hm : m ≤ 140737488351232) (K0 : Kc W) (h0 : 0 < W.heap.size) :
    Calls Tryd.prog 12 #[.slice ad m c, .slice aj mj cj] W fun e w' => e = .returned (.bool true) ∧ Ext W w' := by
  refine calls_has (args := [.slice ad m c, .slice aj mj cj]) Tryd.func12 rfl Tryd.ntmps12 (Nat.le_of_ble_eq_true rfl) (fun a H => ?_)
  simp only [argl, Nat.reduceAdd] at H
  refine wp_seq_k (fun K1 hK1 => ?_)
  refine e_region (fun R hR => ?_)
  refine e_op H rfl rfl (by decide) (x_assign H rfl rfl) ?_
  clear H a; intro a H
  refine e_nil (hR.out _ _ ?_)
  clear hR R
  refine hK1 _ _ ?_
  clear hK1 K1
  refine wp_seq_k (fun K2 hK2 => ?_)
  refine wp_seq_k (fun K3 hK3 => ?_)
  refine e_region (fun R hR => ?_)
  refine e_callq H rfl rfl (by decide) rfl rfl (Tryd.call34 _) (awake3_any W) ?_
  clear H a
  rintro e w1 ⟨rfl, E1⟩
  refine ⟨_, rfl, fun a H => ?_⟩
  have L1 := E1.ls hl
  refine e_op H rfl rfl (by decide) (x_un H rfl rfl (u_not (c := false) (rfl))) ?_
  clear H a; intro a H
  refine e_nil (hR.out _ _ ?_)
  clear hR R
  refine hK3 _ _ ?_
  clear hK3 K3
  refine c_false H rfl ?_
  refine wp_skip ?_
  refine hK2 _ _ ?_
  clear hK2 K2
  refine wp_seq_k (fun K4 hK4 => ?_)
  refine e_region (fun R hR => ?_)
  refine e_op H rfl rfl (by decide) (x_move H rfl rfl) ?_
  clear H a; intro a H
  refine e_callq H rfl rfl (by decide) rfl rfl (Tryd.call35 _) (few_any ad m c ls w1 L1 hm) ?_
  clear H a
  rintro e w2 ⟨a2, n2, c2, rfl, hn2, hc2, L2, E12⟩
  refine ⟨_, rfl, fun a H => ?_⟩
  have E2 := E1.tr E12
  obtain ⟨F, hF⟩ : ∃ F, F = fewS ls := ⟨_, rfl⟩
  have h60 : ∀ x ∈ F, x.length ≤ 60 := by rw [hF]; exact fewS_all ls
  rw [← hF] at L2
  have h4 : ∀ x ∈ F, x.length ≤ 4000 := fun x hx => by have := h60 x hx; omega
  have hFl := L2.leng
  have hfl := file_len60 F h60
  refine e_op H rfl rfl (by decide) (x_assign H rfl rfl) ?_
  clear H a; intro a H
  refine e_nil (hR.out _ _ ?_)
  clear hR R
  refine hK4 _ _ ?_
  clear hK4 K4
  refine wp_seq_k (fun K5 hK5 => ?_)
  refine e_region (fun R hR => ?_)
  refine e_op H rfl rfl (by decide) (x_move H rfl rfl) ?_
  clear H a; intro a H
  refine e_callq H rfl rfl (by decide) rfl rfl (Tryd.call36 _) (file_any a2 n2 c2 F w2 L2 (by omega) h4) ?_
  clear H a
  rintro e wf ⟨a3, n3, c3, rfl, O3, E23⟩
  refine ⟨_, rfl, fun a H => ?_⟩
  have E3 := E2.tr E23
  have L3 := E23.ls L2
  have hn3 := O3.leng
  have hpb := O3.bs
  have hpc := O3.cap
  replace hq := E3.bs hq
  have hs3 := E3.sz
  refine e_op H rfl rfl (by decide) (x_move H rfl rfl) ?_
  clear H a; intro a H
  refine e_op H rfl rfl (by decide) (x_extract H rfl rfl rfl) ?_
  clear H a; intro a H
  refine e_op H rfl rfl (by decide) (x_extract H rfl rfl rfl) ?_
  clear H a; intro a H
  refine e_op H rfl rfl (by decide) (x_assign H rfl rfl) ?_
  clear H a; intro a H
  refine e_op H rfl rfl (by decide) (x_assign H rfl rfl) ?_
  clear H a; intro a H
  refine e_nil (hR.out _ _ ?_)
  clear hR R
  refine hK5 _ _ ?_
  clear hK5 K5
  refine wp_seq_k (fun K6 hK6 => ?_)
  refine wp_seq_k (fun K7 hK7 => ?_)
  refine e_region (fun R hR => ?_)
  refine e_op H rfl rfl (by decide) (x_move H rfl rfl) ?_
  clear H a; intro a H
  refine e_op H rfl rfl (by decide) (x_un H rfl rfl (u_not (c := false) (rfl))) ?_
  clear H a; intro a H
  refine e_nil (hR.out _ _ ?_)
  clear hR R
  refine hK7 _ _ ?_
  clear hK7 K7
  refine c_false H rfl ?_
  refine wp_skip ?_
  refine hK6 _ _ ?_
  clear hK6 K6
  refine wp_seq_k (fun K8 hK8 => ?_)
  refine e_region (fun R hR => ?_)
  refine e_op H rfl rfl (by decide) (x_assign H rfl rfl) ?_
  clear H a; intro a H
  refine e_nil (hR.out _ _ ?_)
  clear hR R
  refine hK8 _ _ ?_
  clear hK8 K8
  refine wp_seq_k (fun K9 hK9 => ?_)
  refine wp_seq_k (fun K10 hK10 => ?_)
  refine e_region (fun R hR => ?_)
  refine e_op H rfl rfl (by decide) (x_assign H rfl rfl) ?_
  clear H a; intro a H
  refine e_nil (hR.out _ _ ?_)
  clear hR R
  refine hK10 _ _ ?_
  clear hK10 K10
  refine wp_block ?_
  refine wp_loop_ghost (fun n a w => ∃ (i L : Nat) (a7 : Option Addr) (c7 : Nat), i ≤ 50 ∧ i ≤ mj ∧ n = 50 - i ∧ Has a 69 [(0, .slice a2 n2 c2), (1, .slice aj mj cj), (5, .slice a3 n3 c3), (7, .slice a7 L c7), (8, .int .i64 (i : Int))] ∧ Ow w wf.heap.size a7 L c7 ((q.take i).filter (fun c => c != 165)) ∧ Ext wf w) (50) ?_ ?_
  · skip
    exact ⟨0, 0, none, 0, by omega, by omega, rfl, H.sub ⟨rfl, rfl, rfl, rfl, rfl, trivial⟩, ownNil _ _, Ext.refl wf⟩
  · skip
    clear H a
    intro n a w hI
    obtain ⟨i, L, a7, c7, hi, him, rfl, H, O, EV⟩ := hI
    have hsv := EV.sz
    have hOl := O.leng
    have hLi : L ≤ i := by rw [← hOl]; exact Nat.le_trans (List.length_filter_le _ _) (by rw [List.length_take]; omega)
    rcases (show (i < mj ∧ i < 50 ∧ q[i]?.getD 0 ≠ 165) ∨ (i < mj ∧ i < 50 ∧ q[i]?.getD 0 = 165) ∨ (i < mj ∧ 50 ≤ i) ∨ mj ≤ i by
      by_cases hy : q[i]?.getD 0 = 165 <;> simp only [hy, ne_eq, not_true_eq_false, not_false_eq_true, and_true, and_false, false_or, or_false] <;> omega) with ⟨hlt, h50, hxx⟩ | ⟨hlt, h50, hxx⟩ | ⟨hlt, h50⟩ | hge
    · skip
      obtain ⟨x, hx⟩ : ∃ x, q[i]? = some x := ⟨_, List.getElem?_eq_getElem (by have := hq.leng; omega)⟩
      have htk : q.take (i + 1) = q.take i ++ [x] := by rw [List.take_add_one, hx]; rfl
      have hnx : nb q i = (x.toNat : Int) := by simp [nb, hx]
      obtain ⟨bj, oj, rfl, hcj⟩ := hq.at (by omega)
      have hcv : w.cell? ⟨bj, oj + i, none⟩ = some (.int .u8 (x.toNat : Int)) := by rw [← hnx]; exact EV.cell (hcj i (by omega))
      rw [hx, Option.getD_some] at hxx
      have hx165 : x.toNat ≠ 165 := fun h => hxx (UInt8.toNat_inj.1 h)
      refine wp_seq_k (fun K11 hK11 => ?_)
      refine wp_seq_k (fun K12 hK12 => ?_)
      refine e_region (fun R hR => ?_)
      refine e_op H rfl rfl (by decide) (x_move H rfl rfl) ?_
      clear H a; intro a H
      refine e_op H rfl rfl (by decide) (x_move H rfl rfl) ?_
      clear H a; intro a H
      refine e_op H rfl rfl (by decide) (x_builtin H rfl rfl (fun cs => len_sl Tryd.underlying22)) ?_
      clear H a; intro a H
      refine e_op H rfl rfl (by decide) (x_binI H rfl rfl rfl (b_lss (b := true) (dec_t (by omega)))) ?_
      clear H a; intro a H
      refine e_op H rfl rfl (by decide) (x_move H rfl rfl) ?_
      clear H a; intro a H
      refine e_opg H (wanted_true H rfl rfl rfl rfl) rfl (by decide) (x_move H rfl rfl) ?_
      clear H a; intro a H
      refine e_opg H (wanted_true H rfl rfl rfl rfl) rfl (by decide) (x_binI H rfl rfl rfl (b_lss (b := true) (dec_t (by omega)))) ?_
      clear H a; intro a H
      refine e_op H rfl rfl (by decide) (x_pickT H rfl rfl rfl) ?_
      clear H a; intro a H
      refine e_nil (hR.out _ _ ?_)
      clear hR R
      refine hK12 _ _ ?_
      clear hK12 K12
      refine c_true H rfl ?_
      refine wp_skip ?_
      refine hK11 _ _ ?_
      clear hK11 K11
      refine wp_seq_k (fun K13 hK13 => ?_)
      refine wp_block ?_
      refine wp_seq_k (fun K14 hK14 => ?_)
      refine e_region (fun R hR => ?_)
      refine e_op H rfl rfl (by decide) (x_move H rfl rfl) ?_
      clear H a; intro a H
      refine e_op H rfl rfl (by decide) (x_move H rfl rfl) ?_
      clear H a; intro a H
      refine e_op H rfl rfl (by decide) (x_indexAddr H rfl rfl rfl (i_sl (m := i) Tryd.underlying22 Tryd.sizeOf5 (rfl) (by omega))) ?_
      clear H a; intro a H
      refine e_op H rfl rfl (by decide) (x_load H rfl rfl (l_cell Tryd.isAgg5 (hcv))) ?_
      clear H a; intro a H
      refine e_op H rfl rfl (by decide) (x_binI H rfl rfl rfl (b_neq (b := true) (by have := UInt8.toNat_inj (a := x) (b := 165); simp; omega))) ?_
      clear H a; intro a H
      refine e_nil (hR.out _ _ ?_)
      clear hR R
      refine hK14 _ _ ?_
      clear hK14 K14
      refine c_true H rfl ?_
      refine e_region (fun R hR => ?_)
      refine e_op H rfl rfl (by decide) (x_move H rfl rfl) ?_
      clear H a; intro a H
      refine e_op H rfl rfl (by decide) (x_move H rfl rfl) ?_
      clear H a; intro a H
      refine e_op H rfl rfl (by decide) (x_move H rfl rfl) ?_
      clear H a; intro a H
      refine e_op H rfl rfl (by decide) (x_indexAddr H rfl rfl rfl (i_sl (m := i) Tryd.underlying22 Tryd.sizeOf5 (rfl) (by omega))) ?_
      clear H a; intro a H
      refine e_op H rfl rfl (by decide) (x_load H rfl rfl (l_cell Tryd.isAgg5 (hcv))) ?_
      clear H a; intro a H
      obtain ⟨g1, wz, hb1, Z, EW, hg1, EE⟩ := al1 EV x rfl
      have O2 : Ow wz wf.heap.size a7 L c7 ((q.take i).filter (fun c => c != 165)) := EE.row O
      obtain ⟨a8, c8, w8, hr8, O8, E8⟩ := ap1 EW O2 Z.bs (cx := 1) (fun h => by cases h) (by omega)
      refine e_op H rfl rfl (by decide) (x_buildSlice H rfl rfl hb1) ?_
      clear H a; intro a H
      refine e_op H rfl rfl (by decide) (x_builtin H rfl rfl (fun cs => bi_app hr8)) ?_
      clear H a; intro a H
      refine e_op H rfl rfl (by decide) (x_assign H rfl rfl) ?_
      clear H a; intro a H
      refine e_nil (hR.out _ _ ?_)
      clear hR R
      refine hK13 _ _ ?_
      clear hK13 K13
      refine e_region (fun R hR => ?_)
      refine e_op H rfl rfl (by decide) (x_move H rfl rfl) ?_
      clear H a; intro a H
      refine e_op H rfl rfl (by decide) (x_binI H rfl rfl rfl (b_add (z := ((i + 1 : Nat) : Int)) (by rw [IntKind.wrap_i64]; omega))) ?_
      clear H a; intro a H
      refine e_op H rfl rfl (by decide) (x_assign H rfl rfl) ?_
      clear H a; intro a H
      refine e_nil (hR.out _ _ ?_)
      clear hR R
      refine ⟨50 - (i + 1), by omega, i + 1, L + 1, a8, c8, by omega, by omega, rfl, H.sub ⟨rfl, rfl, rfl, rfl, rfl, trivial⟩, ?_, E8⟩
      rw [htk, List.filter_append, show ([x] : List UInt8).filter (fun c => c != 165) = [x] by simp [hxx]]
      exact O8
    · skip
      obtain ⟨x, hx⟩ : ∃ x, q[i]? = some x := ⟨_, List.getElem?_eq_getElem (by have := hq.leng; omega)⟩
      have htk : q.take (i + 1) = q.take i ++ [x] := by rw [List.take_add_one, hx]; rfl
      have hnx : nb q i = (x.toNat : Int) := by simp [nb, hx]
      obtain ⟨bj, oj, rfl, hcj⟩ := hq.at (by omega)
      have hcv : w.cell? ⟨bj, oj + i, none⟩ = some (.int .u8 (x.toNat : Int)) := by rw [← hnx]; exact EV.cell (hcj i (by omega))
      rw [hx, Option.getD_some] at hxx
      refine wp_seq_k (fun K15 hK15 => ?_)
      refine wp_seq_k (fun K16 hK16 => ?_)
      refine e_region (fun R hR => ?_)
      refine e_op H rfl rfl (by decide) (x_move H rfl rfl) ?_
      clear H a; intro a H
      refine e_op H rfl rfl (by decide) (x_move H rfl rfl) ?_
      clear H a; intro a H
      refine e_op H rfl rfl (by decide) (x_builtin H rfl rfl (fun cs => len_sl Tryd.underlying22)) ?_
      clear H a; intro a H
      refine e_op H rfl rfl (by decide) (x_binI H rfl rfl rfl (b_lss (b := true) (dec_t (by omega)))) ?_
      clear H a; intro a H
      refine e_op H rfl rfl (by decide) (x_move H rfl rfl) ?_
      clear H a; intro a H
      refine e_opg H (wanted_true H rfl rfl rfl rfl) rfl (by decide) (x_move H rfl rfl) ?_
      clear H a; intro a H
      refine e_opg H (wanted_true H rfl rfl rfl rfl) rfl (by decide) (x_binI H rfl rfl rfl (b_lss (b := true) (dec_t (by omega)))) ?_
      clear H a; intro a H
      refine e_op H rfl rfl (by decide) (x_pickT H rfl rfl rfl) ?_
      clear H a; intro a H
      refine e_nil (hR.out _ _ ?_)
      clear hR R
      refine hK16 _ _ ?_
      clear hK16 K16
      refine c_true H rfl ?_
      refine wp_skip ?_
      refine hK15 _ _ ?_
      clear hK15 K15
      refine wp_seq_k (fun K17 hK17 => ?_)
      refine wp_block ?_
      refine wp_seq_k (fun K18 hK18 => ?_)
      refine e_region (fun R hR => ?_)
      refine e_op H rfl rfl (by decide) (x_move H rfl rfl) ?_
      clear H a; intro a H
      refine e_op H rfl rfl (by decide) (x_move H rfl rfl) ?_
      clear H a; intro a H
      refine e_op H rfl rfl (by decide) (x_indexAddr H rfl rfl rfl (i_sl (m := i) Tryd.underlying22 Tryd.sizeOf5 (rfl) (by omega))) ?_
      clear H a; intro a H
      refine e_op H rfl rfl (by decide) (x_load H rfl rfl (l_cell Tryd.isAgg5 (hcv))) ?_
      clear H a; intro a H
      refine e_op H rfl rfl (by decide) (x_binI H rfl rfl rfl (b_neq (b := false) (by rw [hxx]; rfl))) ?_
      clear H a; intro a H
      refine e_nil (hR.out _ _ ?_)
      clear hR R
      refine hK18 _ _ ?_
      clear hK18 K18
      refine c_false H rfl ?_
      refine wp_skip ?_
      refine hK17 _ _ ?_
      clear hK17 K17
      refine e_region (fun R hR => ?_)
      refine e_op H rfl rfl (by decide) (x_move H rfl rfl) ?_
      clear H a; intro a H
      refine e_op H rfl rfl (by decide) (x_binI H rfl rfl rfl (b_add (z := ((i + 1 : Nat) : Int)) (by rw [IntKind.wrap_i64]; omega))) ?_
      clear H a; intro a H
      refine e_op H rfl rfl (by decide) (x_assign H rfl rfl) ?_
      clear H a; intro a H
      refine e_nil (hR.out _ _ ?_)
      clear hR R
      refine ⟨50 - (i + 1), by omega, i + 1, L, a7, c7, by omega, by omega, rfl, H.sub ⟨rfl, rfl, rfl, rfl, rfl, trivial⟩, ?_, EV⟩
      rw [htk, List.filter_append, show ([x] : List UInt8).filter (fun c => c != 165) = [] by simp [hxx], List.append_nil]
      exact O
    · skip
      skip
      refine wp_seq_k (fun K19 hK19 => ?_)
      refine wp_seq_k (fun K20 hK20 => ?_)
      refine e_region (fun R hR => ?_)
      refine e_op H rfl rfl (by decide) (x_move H rfl rfl) ?_
      clear H a; intro a H
      refine e_op H rfl rfl (by decide) (x_move H rfl rfl) ?_
      clear H a; intro a H
      refine e_op H rfl rfl (by decide) (x_builtin H rfl rfl (fun cs => len_sl Tryd.underlying22)) ?_
      clear H a; intro a H
      refine e_op H rfl rfl (by decide) (x_binI H rfl rfl rfl (b_lss (b := true) (dec_t (by omega)))) ?_
      clear H a; intro a H
      refine e_op H rfl rfl (by decide) (x_move H rfl rfl) ?_
      clear H a; intro a H
      refine e_opg H (wanted_true H rfl rfl rfl rfl) rfl (by decide) (x_move H rfl rfl) ?_
      clear H a; intro a H
      refine e_opg H (wanted_true H rfl rfl rfl rfl) rfl (by decide) (x_binI H rfl rfl rfl (b_lss (b := false) (dec_f (by omega)))) ?_
      clear H a; intro a H
      refine e_op H rfl rfl (by decide) (x_pickT H rfl rfl rfl) ?_
      clear H a; intro a H
      refine e_nil (hR.out _ _ ?_)
      clear hR R
      refine hK20 _ _ ?_
      clear hK20 K20
      refine c_false H rfl ?_
      refine wp_exit ?_
      refine t_exit ?_
      refine t_exit ?_
      refine b_hit ?_
      clear hK19 K19
      refine hK9 _ _ ?_
      clear hK9 K9
      refine wp_seq_k (fun K21 hK21 => ?_)
      refine e_region (fun R hR => ?_)
      obtain ⟨bf, hbf⟩ : ∃ bf, bf = ((q.take i).filter (fun c => c != 165)) := ⟨_, rfl⟩
      rw [← hbf] at O hOl
      have hb165 : ∀ x ∈ bf, x ≠ 165 := by
        intro x hx
        rw [hbf] at hx
        have := (List.mem_filter.1 hx).2
        simpa using this
      obtain ⟨hsb, hsl⟩ := scan_behind bf F hb165 h4
      obtain ⟨a8, c8, w8, hr8, O8, E8⟩ := ap1 EV O (EV.bs hpb) hpc.2 (by omega)
      refine e_op H rfl rfl (by decide) (x_move H rfl rfl) ?_
      clear H a; intro a H
      refine e_op H rfl rfl (by decide) (x_move H rfl rfl) ?_
      clear H a; intro a H
      refine e_op H rfl rfl (by decide) (x_builtin H rfl rfl (fun cs => bi_app hr8)) ?_
      clear H a; intro a H
      refine e_callq H rfl rfl (by decide) rfl rfl (Tryd.call37 _) (bodies_any a8 (L + n3) c8 (bf ++ fileOf F) w8 O8.bs (by omega) O8.cap.2) ?_
      clear H a
      rintro e w9 ⟨a9, c9, rows, rfl, V9, hr9, E89⟩
      refine ⟨_, rfl, fun a H => ?_⟩
      have E9 := E8.tr E89
      rw [hsb] at hr9
      obtain ⟨L9, hrl⟩ := bod_ls (l := fileOf F) V9 hr9 (fun x hx => by have := h60 x hx; omega)
      rw [hrl, hsl] at H
      have EX := E3.tr E9
      have Kx := K0.ext EX
      have hx9 := EX.sz
      replace L3 := E9.ls L3
      refine e_op H rfl rfl (by decide) (x_move H rfl rfl) ?_
      clear H a; intro a H
      refine e_op H rfl rfl (by decide) (x_extract H rfl rfl rfl) ?_
      clear H a; intro a H
      refine e_op H rfl rfl (by decide) (x_extract H rfl rfl rfl) ?_
      clear H a; intro a H
      refine e_op H rfl rfl (by decide) (x_assign H rfl rfl) ?_
      clear H a; intro a H
      refine e_op H rfl rfl (by decide) (x_assign H rfl rfl) ?_
      clear H a; intro a H
      refine e_nil (hR.out _ _ ?_)
      clear hR R
      refine hK21 _ _ ?_
      clear hK21 K21
      refine wp_seq_k (fun K22 hK22 => ?_)
      refine e_region (fun R hR => ?_)
      refine e_op H rfl rfl (by decide) (x_move H rfl rfl) ?_
      clear H a; intro a H
      refine e_op H rfl rfl (by decide) (x_move H rfl rfl) ?_
      clear H a; intro a H
      refine e_op H rfl rfl (by decide) (x_builtin H rfl rfl (fun cs => len_sl Tryd.underlying22)) ?_
      clear H a; intro a H
      refine e_op H rfl rfl (by decide) (x_binI H rfl rfl rfl (b_eql (b := true) (beq_t (by omega)))) ?_
      clear H a; intro a H
      refine e_op H rfl rfl (by decide) (x_move H rfl rfl) ?_
      clear H a; intro a H
      refine e_opg H (wanted_true H rfl rfl rfl rfl) rfl (by decide) (x_move H rfl rfl) ?_
      clear H a; intro a H
      refine e_opg H (wanted_true H rfl rfl rfl rfl) rfl (by decide) (x_builtin H rfl rfl (fun cs => len_sl Tryd.underlying43)) ?_
      clear H a; intro a H
      refine e_opg H (wanted_true H rfl rfl rfl rfl) rfl (by decide) (x_move H rfl rfl) ?_
      clear H a; intro a H
      refine e_opg H (wanted_true H rfl rfl rfl rfl) rfl (by decide) (x_builtin H rfl rfl (fun cs => len_sl Tryd.underlying43)) ?_
      clear H a; intro a H
      refine e_opg H (wanted_true H rfl rfl rfl rfl) rfl (by decide) (x_binI H rfl rfl rfl (b_eql (b := true) (beq_t (by omega)))) ?_
      clear H a; intro a H
      refine e_op H rfl rfl (by decide) (x_pickT H rfl rfl rfl) ?_
      clear H a; intro a H
      refine e_op H rfl rfl (by decide) (x_move H rfl rfl) ?_
      clear H a; intro a H
      refine e_opg H (wanted_true H rfl rfl rfl rfl) rfl (by decide) (x_move H rfl rfl) ?_
      clear H a; intro a H
      refine e_callqg H (wanted_true H rfl rfl rfl rfl) rfl (by decide) rfl rfl (Tryd.call26 _) (parts_any a9 F.length c9 F w9 L9 (by omega) h60 Kx (by omega)) ?_
      clear H a
      rintro e wx ⟨rfl, EE⟩
      refine ⟨_, rfl, fun a H => ?_⟩
      have EY := EX.tr EE
      have hsy := EY.sz
      refine e_opg H (wanted_true H rfl rfl rfl rfl) rfl (by decide) (x_move H rfl rfl) ?_
      clear H a; intro a H
      refine e_callqg H (wanted_true H rfl rfl rfl rfl) rfl (by decide) rfl rfl (Tryd.call26 _) (parts_any a2 n2 c2 F wx (EE.ls L3) (by omega) h60 (K0.ext EY) (by omega)) ?_
      clear H a
      rintro e wz ⟨rfl, EF⟩
      refine ⟨_, rfl, fun a H => ?_⟩
      refine e_opg H (wanted_true H rfl rfl rfl rfl) rfl (by decide) (x_bin H rfl rfl rfl eqg26 (eql26 (c := true) (sha_len _) (sha_len _) (by simp))) ?_
      clear H a; intro a H
      refine e_op H rfl rfl (by decide) (x_pickT H rfl rfl rfl) ?_
      clear H a; intro a H
      refine e_op H rfl rfl (by decide) (x_assign H rfl rfl) ?_
      clear H a; intro a H
      refine e_nil (hR.out _ _ ?_)
      clear hR R
      refine hK22 _ _ ?_
      clear hK22 K22
      refine wp_ret ?_
      exact ret1 H rfl rfl ⟨rfl, EY.tr EF⟩
    · skip
      skip
      refine wp_seq_k (fun K23 hK23 => ?_)
      refine wp_seq_k (fun K24 hK24 => ?_)
      refine e_region (fun R hR => ?_)
      refine e_op H rfl rfl (by decide) (x_move H rfl rfl) ?_
      clear H a; intro a H
      refine e_op H rfl rfl (by decide) (x_move H rfl rfl) ?_
      clear H a; intro a H
      refine e_op H rfl rfl (by decide) (x_builtin H rfl rfl (fun cs => len_sl Tryd.underlying22)) ?_
      clear H a; intro a H
      refine e_op H rfl rfl (by decide) (x_binI H rfl rfl rfl (b_lss (b := false) (dec_f (by omega)))) ?_
      clear H a; intro a H
      refine e_op H rfl rfl (by decide) (x_move H rfl rfl) ?_
      clear H a; intro a H
      refine e_skip H (wanted_false H rfl rfl rfl rfl) rfl (by decide) ?_
      clear H a; intro a H
      refine e_skip H (wanted_false H rfl rfl rfl rfl) rfl (by decide) ?_
      clear H a; intro a H
      refine e_op H rfl rfl (by decide) (x_pickF H rfl rfl rfl) ?_
      clear H a; intro a H
      refine e_nil (hR.out _ _ ?_)
      clear hR R
      refine hK24 _ _ ?_
      clear hK24 K24
      refine c_false H rfl ?_
      refine wp_exit ?_
      refine t_exit ?_
      refine t_exit ?_
      refine b_hit ?_
      clear hK23 K23
      refine hK9 _ _ ?_
      clear hK9 K9
      refine wp_seq_k (fun K25 hK25 => ?_)
      refine e_region (fun R hR => ?_)
      obtain ⟨bf, hbf⟩ : ∃ bf, bf = ((q.take i).filter (fun c => c != 165)) := ⟨_, rfl⟩
      rw [← hbf] at O hOl
      have hb165 : ∀ x ∈ bf, x ≠ 165 := by
        intro x hx
        rw [hbf] at hx
        have := (List.mem_filter.1 hx).2
        simpa using this
      obtain ⟨hsb, hsl⟩ := scan_behind bf F hb165 h4
      obtain ⟨a8, c8, w8, hr8, O8, E8⟩ := ap1 EV O (EV.bs hpb) hpc.2 (by omega)
      refine e_op H rfl rfl (by decide) (x_move H rfl rfl) ?_
      clear H a; intro a H
      refine e_op H rfl rfl (by decide) (x_move H rfl rfl) ?_
      clear H a; intro a H
      refine e_op H rfl rfl (by decide) (x_builtin H rfl rfl (fun cs => bi_app hr8)) ?_
      clear H a; intro a H
      refine e_callq H rfl rfl (by decide) rfl rfl (Tryd.call37 _) (bodies_any a8 (L + n3) c8 (bf ++ fileOf F) w8 O8.bs (by omega) O8.cap.2) ?_
      clear H a
      rintro e w9 ⟨a9, c9, rows, rfl, V9, hr9, E89⟩
      refine ⟨_, rfl, fun a H => ?_⟩
      have E9 := E8.tr E89
      rw [hsb] at hr9
      obtain ⟨L9, hrl⟩ := bod_ls (l := fileOf F) V9 hr9 (fun x hx => by have := h60 x hx; omega)
      rw [hrl, hsl] at H
      have EX := E3.tr E9
      have Kx := K0.ext EX
      have hx9 := EX.sz
      replace L3 := E9.ls L3
      refine e_op H rfl rfl (by decide) (x_move H rfl rfl) ?_
      clear H a; intro a H
      refine e_op H rfl rfl (by decide) (x_extract H rfl rfl rfl) ?_
      clear H a; intro a H
      refine e_op H rfl rfl (by decide) (x_extract H rfl rfl rfl) ?_
      clear H a; intro a H
      refine e_op H rfl rfl (by decide) (x_assign H rfl rfl) ?_
      clear H a; intro a H
      refine e_op H rfl rfl (by decide) (x_assign H rfl rfl) ?_
      clear H a; intro a H
      refine e_nil (hR.out _ _ ?_)
      clear hR R
      refine hK25 _ _ ?_
      clear hK25 K25
      refine wp_seq_k (fun K26 hK26 => ?_)
      refine e_region (fun R hR => ?_)
      refine e_op H rfl rfl (by decide) (x_move H rfl rfl) ?_
      clear H a; intro a H
      refine e_op H rfl rfl (by decide) (x_move H rfl rfl) ?_
      clear H a; intro a H
      refine e_op H rfl rfl (by decide) (x_builtin H rfl rfl (fun cs => len_sl Tryd.underlying22)) ?_
      clear H a; intro a H
      refine e_op H rfl rfl (by decide) (x_binI H rfl rfl rfl (b_eql (b := true) (beq_t (by omega)))) ?_
      clear H a; intro a H
      refine e_op H rfl rfl (by decide) (x_move H rfl rfl) ?_
      clear H a; intro a H
      refine e_opg H (wanted_true H rfl rfl rfl rfl) rfl (by decide) (x_move H rfl rfl) ?_
      clear H a; intro a H
      refine e_opg H (wanted_true H rfl rfl rfl rfl) rfl (by decide) (x_builtin H rfl rfl (fun cs => len_sl Tryd.underlying43)) ?_
      clear H a; intro a H
      refine e_opg H (wanted_true H rfl rfl rfl rfl) rfl (by decide) (x_move H rfl rfl) ?_
      clear H a; intro a H
      refine e_opg H (wanted_true H rfl rfl rfl rfl) rfl (by decide) (x_builtin H rfl rfl (fun cs => len_sl Tryd.underlying43)) ?_
      clear H a; intro a H
      refine e_opg H (wanted_true H rfl rfl rfl rfl) rfl (by decide) (x_binI H rfl rfl rfl (b_eql (b := true) (beq_t (by omega)))) ?_
      clear H a; intro a H
      refine e_op H rfl rfl (by decide) (x_pickT H rfl rfl rfl) ?_
      clear H a; intro a H
      refine e_op H rfl rfl (by decide) (x_move H rfl rfl) ?_
      clear H a; intro a H
      refine e_opg H (wanted_true H rfl rfl rfl rfl) rfl (by decide) (x_move H rfl rfl) ?_
      clear H a; intro a H
      refine e_callqg H (wanted_true H rfl rfl rfl rfl) rfl (by decide) rfl rfl (Tryd.call26 _) (parts_any a9 F.length c9 F w9 L9 (by omega) h60 Kx (by omega)) ?_
      clear H a
      rintro e wx ⟨rfl, EE⟩
      refine ⟨_, rfl, fun a H => ?_⟩
      have EY := EX.tr EE
      have hsy := EY.sz
      refine e_opg H (wanted_true H rfl rfl rfl rfl) rfl (by decide) (x_move H rfl rfl) ?_
      clear H a; intro a H
      refine e_callqg H (wanted_true H rfl rfl rfl rfl) rfl (by decide) rfl rfl (Tryd.call26 _) (parts_any a2 n2 c2 F wx (EE.ls L3) (by omega) h60 (K0.ext EY) (by omega)) ?_
      clear H a
      rintro e wz ⟨rfl, EF⟩
      refine ⟨_, rfl, fun a H => ?_⟩
      refine e_opg H (wanted_true H rfl rfl rfl rfl) rfl (by decide) (x_bin H rfl rfl rfl eqg26 (eql26 (c := true) (sha_len _) (sha_len _) (by simp))) ?_
      clear H a; intro a H
      refine e_op H rfl rfl (by decide) (x_pickT H rfl rfl rfl) ?_
      clear H a; intro a H
      refine e_op H rfl rfl (by decide) (x_assign H rfl rfl) ?_
      clear H a; intro a H
      refine e_nil (hR.out _ _ ?_)
      clear hR R
      refine hK26 _ _ ?_
      clear hK26 K26
      refine wp_ret ?_
      exact ret1 H rfl rfl ⟨rfl, EY.tr EF⟩
end Go.Proofs.YtknllmcpogoeoaaDoor
