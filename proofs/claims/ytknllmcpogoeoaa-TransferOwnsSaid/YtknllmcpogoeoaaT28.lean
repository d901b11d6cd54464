/- TransferOwns, walked. -/
import Derived.Test.YtknllmcpogoeoaaT27
namespace Go.Proofs.Ytknllmcpogoeoaa
open Go.RowKit
set_option linter.unusedVariables false
set_option linter.unusedSimpArgs false
set_option maxRecDepth 100000
/-- own bytes, each of the first j counted up -/
def bump (l : List UInt8) (j : Nat) : List UInt8 := (l.take j).map (· + 1) ++ l.drop j
theorem bump_zero (l : List UInt8) : bump l 0 = l := by simp [bump]
theorem bump_len (l : List UInt8) (j : Nat) : (bump l j).length = l.length := by
  unfold bump
  rw [List.length_append, List.length_map, List.length_take, List.length_drop]; omega
theorem bump_get (l : List UInt8) (j : Nat) (h : j < l.length) : (bump l j)[j]?.getD 0 = l[j]?.getD 0 := by
  unfold bump
  rw [List.getElem?_append_right (by rw [List.length_map, List.length_take]; omega), List.length_map, List.length_take, List.getElem?_drop]
  congr 2; omega
theorem bump_set (l : List UInt8) (j : Nat) (h : j < l.length) : (bump l j).set j ((l[j]?.getD 0) + 1) = bump l (j + 1) := by
  unfold bump
  have h1 : ((l.take j).map (· + 1)).length = j := by rw [List.length_map, List.length_take]; omega
  rw [List.set_append_right _ _ (by omega), h1, Nat.sub_self, List.drop_eq_getElem_cons h, List.set_cons_zero, List.take_add_one, List.getElem?_eq_getElem h, List.map_append]
  simp
theorem u8_inc (x : UInt8) : IntKind.u8.wrap ((x.toNat : Int) + 1) = (((x + 1 : UInt8)).toNat : Int) := by
  rw [IntKind.wrap_u8, UInt8.toNat_add]
  rfl
/-- the blocks of the elements ascend -/
def Asc (xs : List Value) : Prop := ∀ (i j : Nat) (u v : Value) (k m : Nat), i < j → xs[i]? = some u → xs[j]? = some v → u.ownBlock = some k → v.ownBlock = some m → k < m
theorem Asc.nil : Asc [] := fun i j u v k m _ h => by simp at h
theorem Asc.snoc {xs : List Value} {e : Value} (h : Asc xs) (he : ∀ u ∈ xs, ∀ k m, u.ownBlock = some k → e.ownBlock = some m → k < m) : Asc (xs ++ [e]) := by
  intro i j u v k m hij hu hv hk hm
  have hj : j < (xs ++ [e]).length := (List.getElem?_eq_some_iff.1 hv).1
  rw [List.length_append, List.length_singleton] at hj
  rw [List.getElem?_append_left (by omega)] at hu
  by_cases hjl : j < xs.length
  · rw [List.getElem?_append_left hjl] at hv
    exact h i j u v k m hij hu hv hk hm
  · rw [List.getElem?_append_right (by omega), show j - xs.length = 0 by omega] at hv
    simp only [List.getElem?_cons_zero, Option.some.injEq] at hv
    subst hv
    exact he u (List.mem_of_getElem? hu) k m hk hm
theorem out_asc (B g : Nat) (v : Value) (s : Snd) (w0 : World) (R0 : Sn w0 B g v s) : Calls Try.prog 52 #[.pointer (some ⟨g, 0, none⟩)] w0 fun e w' =>
    ∃ v' xs, e = .returned v' ∧ Rw w' w0.heap.size 22 v' xs ∧ Els w' w0.heap.size xs ((((unm (gb s.acked) (chunksT s.file.length))).take 8).map (pkt s.id s.file)) ∧ Ext w0 w' ∧ Asc xs := by
  obtain ⟨fa, fc, rfl, hO⟩ := R0.file
  have hn1 := chunks_le R0.flt
  have hflt := R0.flt
  have hlen := R0.len
  refine calls_has (args := [.pointer (some ⟨g, 0, none⟩)]) Try.func52 rfl Try.ntmps52 (Nat.le_of_ble_eq_true rfl) (fun a H => ?_)
  simp only [argl, Nat.reduceAdd] at H
  refine wp_seq_k (fun K1 hK1 => ?_)
  refine e_region (fun R hR => ?_)
  refine e_op H rfl rfl (by decide) (x_assign H rfl rfl) ?_
  clear H a; intro a H
  refine e_nil (hR.out _ _ ?_)
  clear hR R
  refine hK1 _ _ ?_
  clear hK1 K1
  refine wp_seq_k (fun K2 hK2 => ?_)
  refine wp_seq_k (fun K3 hK3 => ?_)
  refine e_region (fun R hR => ?_)
  refine e_op H rfl rfl (by decide) (x_move H rfl rfl) ?_
  clear H a; intro a H
  refine e_op H rfl rfl (by decide) (x_bin H rfl rfl rfl (by rw [eqGuard_at_pointer]; rfl) (b_pnil (c := false) Try.underlying64 rfl)) ?_
  clear H a; intro a H
  refine e_nil (hR.out _ _ ?_)
  clear hR R
  refine hK3 _ _ ?_
  clear hK3 K3
  refine c_false H rfl ?_
  refine wp_skip ?_
  refine hK2 _ _ ?_
  clear hK2 K2
  refine wp_seq_k (fun K4 hK4 => ?_)
  refine e_region (fun R hR => ?_)
  refine e_op H rfl rfl (by decide) (x_assign H rfl rfl) ?_
  clear H a; intro a H
  refine e_nil (hR.out _ _ ?_)
  clear hR R
  refine hK4 _ _ ?_
  clear hK4 K4
  refine wp_seq_k (fun K5 hK5 => ?_)
  refine wp_seq_k (fun K6 hK6 => ?_)
  refine e_region (fun R hR => ?_)
  refine e_op H rfl rfl (by decide) (x_assign H rfl rfl) ?_
  clear H a; intro a H
  refine e_nil (hR.out _ _ ?_)
  clear hR R
  refine hK6 _ _ ?_
  clear hK6 K6
  refine wp_block ?_
  refine wp_loop_ghost (fun n a w => ∃ i va c xs, i ≤ (chunksT s.file.length) ∧ n = (chunksT s.file.length) - i ∧ (unm (gb s.acked) i).length ≤ 8 ∧ Has a 36 [(0, .pointer (some ⟨g, 0, none⟩)), (3, .slice va xs.length c), (4, .int .i64 (i : Int))] ∧ Rw w w0.heap.size 22 (.slice va xs.length c) xs ∧ Els w w0.heap.size xs ((unm (gb s.acked) i).map (pkt s.id s.file)) ∧ Ext w0 w ∧ Asc xs) ((chunksT s.file.length)) ?_ ?_
  · skip
    exact ⟨0, none, 0, [], by omega, rfl, by simp [unm], H.sub ⟨rfl, rfl, rfl, trivial⟩, Rw.nil _ _ _, Els.nil _ _, Ext.refl _, Asc.nil⟩
  · skip
    clear H
    intro n a w hI
    obtain ⟨i, va, c, xs, hi, rfl, hl8, H, RW, EL, E, hA⟩ := hI
    have hxl : xs.length = (unm (gb s.acked) i).length := by rw [EL.len, List.length_map]
    rcases (show (i < (chunksT s.file.length) ∧ xs.length < 8 ∧ gb s.acked i = true) ∨ (i < (chunksT s.file.length) ∧ xs.length < 8 ∧ gb s.acked i = false) ∨ (i < (chunksT s.file.length) ∧ xs.length = 8) ∨ i = (chunksT s.file.length) by cases gb s.acked i <;> simp <;> omega) with ⟨hlt, hx8, hgb⟩ | ⟨hlt, hx8, hgb⟩ | ⟨hlt, hx8⟩ | hie
    · skip
      skip
      refine wp_seq_k (fun K7 hK7 => ?_)
      refine wp_seq_k (fun K8 hK8 => ?_)
      refine e_region (fun R hR => ?_)
      refine e_op H rfl rfl (by decide) (x_move H rfl rfl) ?_
      clear H a; intro a H
      refine e_op H rfl rfl (by decide) (x_move H rfl rfl) ?_
      clear H a; intro a H
      refine e_op H rfl rfl (by decide) (x_nilCheck H rfl rfl) ?_
      clear H a; intro a H
      refine e_op H rfl rfl (by decide) (x_fieldAddr H rfl rfl (fa184_1 _ _)) ?_
      clear H a; intro a H
      refine e_op H rfl rfl (by decide) (x_load H rfl rfl (l_cell Try.isAgg22 ((R0.ext E).blk.at_ (i := 1) rfl))) ?_
      clear H a; intro a H
      refine e_op H rfl rfl (by decide) (x_builtin H rfl rfl (fun cs => len_sl Try.underlying22)) ?_
      clear H a; intro a H
      refine e_callp H rfl rfl (by decide) rfl rfl (Try.call109 _) (chunks_any s.file.length w (by omega)) ?_
      clear H a; intro a H
      refine e_op H rfl rfl (by decide) (x_binI H rfl rfl rfl (b_lss (b := true) (dec_t (by omega)))) ?_
      clear H a; intro a H
      refine e_op H rfl rfl (by decide) (x_move H rfl rfl) ?_
      clear H a; intro a H
      refine e_opg H (wanted_true H rfl rfl rfl rfl) rfl (by decide) (x_move H rfl rfl) ?_
      clear H a; intro a H
      refine e_opg H (wanted_true H rfl rfl rfl rfl) rfl (by decide) (x_builtin H rfl rfl (fun cs => len_sl Try.underlying37)) ?_
      clear H a; intro a H
      refine e_opg H (wanted_true H rfl rfl rfl rfl) rfl (by decide) (x_binI H rfl rfl rfl (b_lss (b := true) (dec_t (by omega)))) ?_
      clear H a; intro a H
      refine e_op H rfl rfl (by decide) (x_pickT H rfl rfl rfl) ?_
      clear H a; intro a H
      refine e_nil (hR.out _ _ ?_)
      clear hR R
      refine hK8 _ _ ?_
      clear hK8 K8
      refine c_true H rfl ?_
      refine wp_skip ?_
      refine hK7 _ _ ?_
      clear hK7 K7
      refine wp_seq_k (fun K9 hK9 => ?_)
      refine wp_block ?_
      refine wp_seq_k (fun K10 hK10 => ?_)
      refine e_region (fun R hR => ?_)
      refine e_op H rfl rfl (by decide) (x_move H rfl rfl) ?_
      clear H a; intro a H
      refine e_op H rfl rfl (by decide) (x_move H rfl rfl) ?_
      clear H a; intro a H
      refine e_op H rfl rfl (by decide) (x_nilCheck H rfl rfl) ?_
      clear H a; intro a H
      refine e_op H rfl rfl (by decide) (x_fieldAddr H rfl rfl (fa184_2 _ _)) ?_
      clear H a; intro a H
      refine e_op H rfl rfl (by decide) (x_indexAddr H rfl rfl rfl (i_arr (m := i) Try.underlying179 Try.sizeOf4 rfl (by omega))) ?_
      clear H a; intro a H
      refine e_op H rfl rfl (by decide) (x_load H rfl rfl (l_cell Try.isAgg4 ((R0.ext E).blk.at_ (i := 2 + i) (by rw [snd_mark _ _ _ _ (by omega), hgb])))) ?_
      clear H a; intro a H
      refine e_op H rfl rfl (by decide) (x_un H rfl rfl (u_not (c := false) (rfl))) ?_
      clear H a; intro a H
      refine e_nil (hR.out _ _ ?_)
      clear hR R
      refine hK10 _ _ ?_
      clear hK10 K10
      refine c_false H rfl ?_
      refine wp_skip ?_
      refine hK9 _ _ ?_
      clear hK9 K9
      refine e_region (fun R hR => ?_)
      refine e_op H rfl rfl (by decide) (x_move H rfl rfl) ?_
      clear H a; intro a H
      refine e_op H rfl rfl (by decide) (x_binI H rfl rfl rfl (b_add (z := ((i + 1 : Nat) : Int)) (by rw [IntKind.wrap_i64]; omega))) ?_
      clear H a; intro a H
      refine e_op H rfl rfl (by decide) (x_assign H rfl rfl) ?_
      clear H a; intro a H
      refine e_nil (hR.out _ _ ?_)
      clear hR R
      have hu := unm_succ (gb s.acked) i
      rw [hgb, if_pos rfl] at hu
      exact ⟨(chunksT s.file.length) - (i + 1), by omega, i + 1, va, c, xs, by omega, rfl, by rw [hu]; exact hl8, H.sub ⟨rfl, rfl, rfl, trivial⟩, RW, by rw [hu]; exact EL, E, hA⟩
    · skip
      skip
      refine wp_seq_k (fun K11 hK11 => ?_)
      refine wp_seq_k (fun K12 hK12 => ?_)
      refine e_region (fun R hR => ?_)
      refine e_op H rfl rfl (by decide) (x_move H rfl rfl) ?_
      clear H a; intro a H
      refine e_op H rfl rfl (by decide) (x_move H rfl rfl) ?_
      clear H a; intro a H
      refine e_op H rfl rfl (by decide) (x_nilCheck H rfl rfl) ?_
      clear H a; intro a H
      refine e_op H rfl rfl (by decide) (x_fieldAddr H rfl rfl (fa184_1 _ _)) ?_
      clear H a; intro a H
      refine e_op H rfl rfl (by decide) (x_load H rfl rfl (l_cell Try.isAgg22 ((R0.ext E).blk.at_ (i := 1) rfl))) ?_
      clear H a; intro a H
      refine e_op H rfl rfl (by decide) (x_builtin H rfl rfl (fun cs => len_sl Try.underlying22)) ?_
      clear H a; intro a H
      refine e_callp H rfl rfl (by decide) rfl rfl (Try.call109 _) (chunks_any s.file.length w (by omega)) ?_
      clear H a; intro a H
      refine e_op H rfl rfl (by decide) (x_binI H rfl rfl rfl (b_lss (b := true) (dec_t (by omega)))) ?_
      clear H a; intro a H
      refine e_op H rfl rfl (by decide) (x_move H rfl rfl) ?_
      clear H a; intro a H
      refine e_opg H (wanted_true H rfl rfl rfl rfl) rfl (by decide) (x_move H rfl rfl) ?_
      clear H a; intro a H
      refine e_opg H (wanted_true H rfl rfl rfl rfl) rfl (by decide) (x_builtin H rfl rfl (fun cs => len_sl Try.underlying37)) ?_
      clear H a; intro a H
      refine e_opg H (wanted_true H rfl rfl rfl rfl) rfl (by decide) (x_binI H rfl rfl rfl (b_lss (b := true) (dec_t (by omega)))) ?_
      clear H a; intro a H
      refine e_op H rfl rfl (by decide) (x_pickT H rfl rfl rfl) ?_
      clear H a; intro a H
      refine e_nil (hR.out _ _ ?_)
      clear hR R
      refine hK12 _ _ ?_
      clear hK12 K12
      refine c_true H rfl ?_
      refine wp_skip ?_
      refine hK11 _ _ ?_
      clear hK11 K11
      refine wp_seq_k (fun K13 hK13 => ?_)
      refine wp_block ?_
      refine wp_seq_k (fun K14 hK14 => ?_)
      refine e_region (fun R hR => ?_)
      refine e_op H rfl rfl (by decide) (x_move H rfl rfl) ?_
      clear H a; intro a H
      refine e_op H rfl rfl (by decide) (x_move H rfl rfl) ?_
      clear H a; intro a H
      refine e_op H rfl rfl (by decide) (x_nilCheck H rfl rfl) ?_
      clear H a; intro a H
      refine e_op H rfl rfl (by decide) (x_fieldAddr H rfl rfl (fa184_2 _ _)) ?_
      clear H a; intro a H
      refine e_op H rfl rfl (by decide) (x_indexAddr H rfl rfl rfl (i_arr (m := i) Try.underlying179 Try.sizeOf4 rfl (by omega))) ?_
      clear H a; intro a H
      refine e_op H rfl rfl (by decide) (x_load H rfl rfl (l_cell Try.isAgg4 ((R0.ext E).blk.at_ (i := 2 + i) (by rw [snd_mark _ _ _ _ (by omega), hgb])))) ?_
      clear H a; intro a H
      refine e_op H rfl rfl (by decide) (x_un H rfl rfl (u_not (c := true) (rfl))) ?_
      clear H a; intro a H
      refine e_nil (hR.out _ _ ?_)
      clear hR R
      refine hK14 _ _ ?_
      clear hK14 K14
      refine c_true H rfl ?_
      refine e_region (fun R hR => ?_)
      refine e_op H rfl rfl (by decide) (x_move H rfl rfl) ?_
      clear H a; intro a H
      refine e_op H rfl rfl (by decide) (x_move H rfl rfl) ?_
      clear H a; intro a H
      refine e_op H rfl rfl (by decide) (x_move H rfl rfl) ?_
      clear H a; intro a H
      refine e_callq H rfl rfl (by decide) rfl rfl (Try.call111 _) (packet_any B g i _ s w (R0.ext E) hlt) ?_
      clear H a
      rintro e w2 ⟨a2, c2, rfl, O2, E2⟩
      refine ⟨_, rfl, fun a H => ?_⟩
      have hlow := EL.blks
      have hhi : ∀ k, (Value.slice a2 (pkt s.id s.file i).length c2).ownBlock = some k → w.heap.size ≤ k := fun k hk => (O2.rw_.blk k hk).1
      replace RW := RW.ext E2
      replace EL := EL.ext E2
      replace O2 := O2.mono E.sz
      replace E := E.tr E2
      refine e_op H rfl rfl (by decide) (x_buildSlice H rfl rfl (bs37 _ _ _ _)) ?_
      clear H a; intro a H
      obtain ⟨el, hel⟩ : ∃ el, el = Value.slice a2 (pkt s.id s.file i).length c2 := ⟨_, rfl⟩
      have E3 := E.al (.cells [el].toArray 22)
      obtain ⟨v4, w4, hr4, RW4, G4, hb4⟩ := Rw.app el37 (w2.alloc (.cells [el].toArray 22)) 37 w0.heap.size (RW.ext ((Ext.refl w2).al _)) (Rw.new w2 0 22 [el] (Nat.zero_le _) (by simp)) (fun u hu => by simp at hu; rw [hu, hel]; rfl) (by simp; omega) (by omega) E3.sz
      have E4 : Ext w0 w4 := E3.grown G4 (fun k hk => (RW.blk k hk).1)
      have EL4 := (EL.ext ((Ext.refl w2).al (.cells [el].toArray 22))).past (RW.ext ((Ext.refl w2).al _)) (by decide) G4
      have O4 := (O2.ext_ ((Ext.refl w2).al (.cells [el].toArray 22))).past (RW.ext ((Ext.refl w2).al _)) (by decide) G4
      rw [hel] at hr4
      obtain ⟨a4, c4, rfl, _⟩ := RW4.shape
      have hl4 : (xs ++ [el]).length = xs.length + 1 := by simp
      refine e_op H rfl rfl (by decide) (x_builtin H rfl rfl (fun cs => bi_app hr4)) ?_
      clear H a; intro a H
      refine e_op H rfl rfl (by decide) (x_assign H rfl rfl) ?_
      clear H a; intro a H
      refine e_nil (hR.out _ _ ?_)
      clear hR R
      refine hK13 _ _ ?_
      clear hK13 K13
      refine e_region (fun R hR => ?_)
      refine e_op H rfl rfl (by decide) (x_move H rfl rfl) ?_
      clear H a; intro a H
      refine e_op H rfl rfl (by decide) (x_binI H rfl rfl rfl (b_add (z := ((i + 1 : Nat) : Int)) (by rw [IntKind.wrap_i64]; omega))) ?_
      clear H a; intro a H
      refine e_op H rfl rfl (by decide) (x_assign H rfl rfl) ?_
      clear H a; intro a H
      refine e_nil (hR.out _ _ ?_)
      clear hR R
      have hu := unm_succ (gb s.acked) i
      rw [hgb] at hu
      simp only [Bool.false_eq_true, if_false] at hu
      refine ⟨(chunksT s.file.length) - (i + 1), by omega, i + 1, a4, c4, xs ++ [el], by omega, rfl, by rw [hu]; simp; omega, H.sub ⟨rfl, rfl, rfl, trivial⟩, RW4, ?_, E4, hA.snoc (fun u hu k m hk hm => by rw [hel] at hm; have h1 := (hlow u hu k hk).2; have h2 := hhi m hm; omega)⟩
      rw [hu, List.map_append, List.map_cons, List.map_nil, hel]
      exact EL4.app (Els.one O4)
    · skip
      skip
      refine wp_seq_k (fun K15 hK15 => ?_)
      refine wp_seq_k (fun K16 hK16 => ?_)
      refine e_region (fun R hR => ?_)
      refine e_op H rfl rfl (by decide) (x_move H rfl rfl) ?_
      clear H a; intro a H
      refine e_op H rfl rfl (by decide) (x_move H rfl rfl) ?_
      clear H a; intro a H
      refine e_op H rfl rfl (by decide) (x_nilCheck H rfl rfl) ?_
      clear H a; intro a H
      refine e_op H rfl rfl (by decide) (x_fieldAddr H rfl rfl (fa184_1 _ _)) ?_
      clear H a; intro a H
      refine e_op H rfl rfl (by decide) (x_load H rfl rfl (l_cell Try.isAgg22 ((R0.ext E).blk.at_ (i := 1) rfl))) ?_
      clear H a; intro a H
      refine e_op H rfl rfl (by decide) (x_builtin H rfl rfl (fun cs => len_sl Try.underlying22)) ?_
      clear H a; intro a H
      refine e_callp H rfl rfl (by decide) rfl rfl (Try.call109 _) (chunks_any s.file.length w (by omega)) ?_
      clear H a; intro a H
      refine e_op H rfl rfl (by decide) (x_binI H rfl rfl rfl (b_lss (b := true) (dec_t (by omega)))) ?_
      clear H a; intro a H
      refine e_op H rfl rfl (by decide) (x_move H rfl rfl) ?_
      clear H a; intro a H
      refine e_opg H (wanted_true H rfl rfl rfl rfl) rfl (by decide) (x_move H rfl rfl) ?_
      clear H a; intro a H
      refine e_opg H (wanted_true H rfl rfl rfl rfl) rfl (by decide) (x_builtin H rfl rfl (fun cs => len_sl Try.underlying37)) ?_
      clear H a; intro a H
      refine e_opg H (wanted_true H rfl rfl rfl rfl) rfl (by decide) (x_binI H rfl rfl rfl (b_lss (b := false) (dec_f (by omega)))) ?_
      clear H a; intro a H
      refine e_op H rfl rfl (by decide) (x_pickT H rfl rfl rfl) ?_
      clear H a; intro a H
      refine e_nil (hR.out _ _ ?_)
      clear hR R
      refine hK16 _ _ ?_
      clear hK16 K16
      refine c_false H rfl ?_
      refine wp_exit ?_
      refine t_exit ?_
      refine t_exit ?_
      refine b_hit ?_
      clear hK15 K15
      refine hK5 _ _ ?_
      clear hK5 K5
      refine wp_seq_k (fun K17 hK17 => ?_)
      refine e_region (fun R hR => ?_)
      refine e_op H rfl rfl (by decide) (x_move H rfl rfl) ?_
      clear H a; intro a H
      refine e_op H rfl rfl (by decide) (x_assign H rfl rfl) ?_
      clear H a; intro a H
      refine e_nil (hR.out _ _ ?_)
      clear hR R
      refine hK17 _ _ ?_
      clear hK17 K17
      refine wp_ret ?_
      have hx : (unm (gb s.acked) i) = ((unm (gb s.acked) (chunksT s.file.length))).take 8 := unm_take _ _ _ _ hi (.inr (by omega)) hl8
      rw [hx] at EL
      exact ret1 H rfl rfl ⟨_, xs, rfl, RW, EL, E, hA⟩
    · skip
      skip
      refine wp_seq_k (fun K18 hK18 => ?_)
      refine wp_seq_k (fun K19 hK19 => ?_)
      refine e_region (fun R hR => ?_)
      refine e_op H rfl rfl (by decide) (x_move H rfl rfl) ?_
      clear H a; intro a H
      refine e_op H rfl rfl (by decide) (x_move H rfl rfl) ?_
      clear H a; intro a H
      refine e_op H rfl rfl (by decide) (x_nilCheck H rfl rfl) ?_
      clear H a; intro a H
      refine e_op H rfl rfl (by decide) (x_fieldAddr H rfl rfl (fa184_1 _ _)) ?_
      clear H a; intro a H
      refine e_op H rfl rfl (by decide) (x_load H rfl rfl (l_cell Try.isAgg22 ((R0.ext E).blk.at_ (i := 1) rfl))) ?_
      clear H a; intro a H
      refine e_op H rfl rfl (by decide) (x_builtin H rfl rfl (fun cs => len_sl Try.underlying22)) ?_
      clear H a; intro a H
      refine e_callp H rfl rfl (by decide) rfl rfl (Try.call109 _) (chunks_any s.file.length w (by omega)) ?_
      clear H a; intro a H
      refine e_op H rfl rfl (by decide) (x_binI H rfl rfl rfl (b_lss (b := false) (dec_f (by omega)))) ?_
      clear H a; intro a H
      refine e_op H rfl rfl (by decide) (x_move H rfl rfl) ?_
      clear H a; intro a H
      refine e_skip H (wanted_false H rfl rfl rfl rfl) rfl (by decide) ?_
      clear H a; intro a H
      refine e_skip H (wanted_false H rfl rfl rfl rfl) rfl (by decide) ?_
      clear H a; intro a H
      refine e_skip H (wanted_false H rfl rfl rfl rfl) rfl (by decide) ?_
      clear H a; intro a H
      refine e_op H rfl rfl (by decide) (x_pickF H rfl rfl rfl) ?_
      clear H a; intro a H
      refine e_nil (hR.out _ _ ?_)
      clear hR R
      refine hK19 _ _ ?_
      clear hK19 K19
      refine c_false H rfl ?_
      refine wp_exit ?_
      refine t_exit ?_
      refine t_exit ?_
      refine b_hit ?_
      clear hK18 K18
      refine hK5 _ _ ?_
      clear hK5 K5
      refine wp_seq_k (fun K20 hK20 => ?_)
      refine e_region (fun R hR => ?_)
      refine e_op H rfl rfl (by decide) (x_move H rfl rfl) ?_
      clear H a; intro a H
      refine e_op H rfl rfl (by decide) (x_assign H rfl rfl) ?_
      clear H a; intro a H
      refine e_nil (hR.out _ _ ?_)
      clear hR R
      refine hK20 _ _ ?_
      clear hK20 K20
      refine wp_ret ?_
      have hx : (unm (gb s.acked) i) = ((unm (gb s.acked) (chunksT s.file.length))).take 8 := unm_take _ _ _ _ hi (.inl hie) hl8
      rw [hx] at EL
      exact ret1 H rfl rfl ⟨_, xs, rfl, RW, EL, E, hA⟩
/-- a sender and a receiver of one file, in memory -/
structure St (w : World) (B gs gr : Nat) (vs vr : Value) (s : Snd) (r : Rcv) (id : Nat) (fb : List UInt8) : Prop where
  sn : Sn w B gs vs s
  rv : Rv w B gr vr r
  sid : s.id = id
  sfile : s.file = fb
  rof : r.of id fb
  sub : ∀ k, gb s.acked k = true → gb r.has k = true
  sep : ∀ k, vr.ownBlock = some k → vs.ownBlock ≠ some k
section
variable {w w' : World} {B gs gr id : Nat} {vs vr : Value} {s : Snd} {r : Rcv} {fb : List UInt8}
theorem St.ext (h : St w B gs gr vs vr s r id fb) (E : Ext w w') : St w' B gs gr vs vr s r id fb := ⟨h.sn.ext E, h.rv.ext E, h.sid, h.sfile, h.rof, h.sub, h.sep⟩
theorem St.frm {S : List Nat} (h : St w B gs gr vs vr s r id fb) (F : Frm S w w') (h1 : gs ∉ S) (h2 : gr ∉ S) (h3 : ∀ k, vs.ownBlock = some k → k ∉ S) (h4 : ∀ k, vr.ownBlock = some k → k ∉ S) : St w' B gs gr vs vr s r id fb :=
  ⟨h.sn.frm F h1 h3, h.rv.frm F h2 h4, h.sid, h.sfile, h.rof, h.sub, h.sep⟩
theorem Sn.own_lt (h : Sn w B gs vs s) : ∀ k, vs.ownBlock = some k → k < w.heap.size := by
  intro k hk
  obtain ⟨a, c, e, ho⟩ := h.file
  rw [e] at hk
  exact (ho.rw_.blk k hk).2.1
/-- a packet of the file comes in -/
theorem St.in_ (h : St w B gs gr vs vr s r id fb) (hid : id < 4294967296) (hf : fb.length ≤ 65535) {i : Nat} (hi : i < chunksT fb.length) {ad : Option Addr} {n c : Nat} (hb : Bs w ad n (pkt id fb i)) (hz : ad = none → c = 0) (hnc : n ≤ c) :
    Calls Try.prog 56 #[.pointer (some ⟨gr, 0, none⟩), .slice ad n c] w fun e w' => e = .returned (.int .i64 0) ∧ ∃ v r', St w' B gs gr vs v s r' id fb ∧ (∀ k, gb r'.has k = (gb r.has k || decide (k = i))) ∧
      Frm (gr :: vr.ownBlock.toList) w w' ∧ (v.ownBlock = vr.ownBlock ∨ ∃ k, v.ownBlock = some k ∧ w.heap.size ≤ k) := by
  have hpl := pkt_len id fb i hid hf (Nat.lt_of_lt_of_le hi (chunks_le hf))
  have hl := hb.leng
  refine (in_any B gr vr r ad n c _ w h.rv hb hz hnc (by omega)).mono ?_
  rintro e w' ⟨rfl, v, R, F, hown, _⟩
  obtain ⟨h1, h2, h3, h4⟩ := h.rof.in_ i hid hf hi
  rw [h1]
  refine ⟨rfl, v, _, ⟨h.sn.frm F ?_ ?_, by rw [h2] at R; exact R, h.sid, h.sfile, h3, fun k hk => by rw [h4, h.sub k hk, Bool.true_or], ?_⟩, h4, F, hown⟩
  · intro hx
    rcases List.mem_cons.1 hx with hx | hx
    · exact (Blk.ne_ h.sn.blk h.rv.blk (by decide)) hx
    · rw [Option.mem_toList] at hx
      obtain ⟨a, c, e, ho⟩ := h.rv.data
      rw [e] at hx
      exact ho.rw_.nt h.sn.blk (by decide) hx
  · intro k hk hx
    rcases List.mem_cons.1 hx with hx | hx
    · obtain ⟨a, c, e, ho⟩ := h.sn.file
      rw [e, hx] at hk
      exact ho.rw_.nt h.rv.blk (by decide) hk
    · rw [Option.mem_toList] at hx
      exact h.sep k hx hk
  · intro k hk
    rcases hown with ho | ⟨k2, ho, hlt⟩
    · exact h.sep k (by rw [← ho]; exact hk)
    · rw [ho] at hk
      cases hk
      intro e
      have := h.sn.own_lt k e
      omega
/-- an acknowledgement of all that has come is taken -/
theorem St.ack_ (h : St w B gs gr vs vr s r id fb) (hid : id < 4294967296) {ad : Option Addr} {n c : Nat} (hb : Bs w ad n (ackP r.id r.has)) (hz : ad = none → c = 0) (hnc : n ≤ c) :
    Calls Try.prog 53 #[.pointer (some ⟨gs, 0, none⟩), .slice ad n c] w fun e w' => e = .returned (.int .i64 0) ∧ ∃ s', St w' B gs gr vs vr s' r id fb ∧ (∀ k, gb s'.acked k = (gb s.acked k || gb r.has k)) ∧ Frm [gs] w w' := by
  have hpl := ackP_len r.id r.has (by rw [h.rof.id_]; exact hid)
  have hl := hb.leng
  unfold ackP at hl
  rw [tseal_len] at hl
  refine (sack_any B gs vs s ad n c _ w h.sn hb hz hnc (by omega)).mono ?_
  rintro e w' ⟨rfl, S, F, _⟩
  obtain ⟨q1, q2, q3, q4, q5⟩ := (Snd.ack_put s r.id r.has (by rw [h.rof.id_]; exact hid) h.rof.size h.sn.len).2.2 (by rw [h.rof.id_, h.sid]) (fun k hk => h.rof.beyond k (by rw [← h.sfile]; exact hk))
  rw [q1]
  refine ⟨rfl, _, ⟨S, h.rv.frm F ?_ ?_, q2.trans h.sid, q3.trans h.sfile, h.rof, fun k hk => ?_, h.sep⟩, q5, F⟩
  · intro hx
    simp only [List.mem_singleton] at hx
    exact (Blk.ne_ h.sn.blk h.rv.blk (by decide)) hx.symm
  · intro k hk hx
    simp only [List.mem_singleton] at hx
    obtain ⟨a, c, e, ho⟩ := h.rv.data
    rw [e, hx] at hk
    exact ho.rw_.nt h.sn.blk (by decide) hk
  · rw [q5] at hk
    rw [Bool.or_eq_true] at hk
    rcases hk with hk | hk
    · exact h.sub k hk
    · exact hk
end
/-- one own byte is counted up -/
theorem bump_step {w : World} {B g c j : Nat} {L : List UInt8} (O : Ow w B (some ⟨g, 0, none⟩) L.length c (bump L j)) (hlt : j < L.length) :
    w.cell? ⟨g, 0 + j, none⟩ = some (.int .u8 ((L[j]?.getD 0).toNat : Int)) ∧ Ow (w.setCell ⟨g, j, none⟩ (.int .u8 ((L[j]?.getD 0 + 1 : UInt8).toNat : Int))) B (some ⟨g, 0, none⟩) L.length c (bump L (j + 1)) := by
  refine ⟨?_, ?_⟩
  · have h := O.bs.one j hlt
    unfold nb at h
    rw [bump_get _ _ hlt] at h
    exact h
  · have h := O.setAt j hlt (L[j]?.getD 0 + 1) _ rfl
    rw [bump_set _ _ hlt] at h
    exact h
theorem ow_pos {w : World} {B : Nat} {a : Option Addr} {n c : Nat} {l : List UInt8} (h : Ow w B a n c l) (hn : 0 < n) : ∃ g, a = some ⟨g, 0, none⟩ := by
  rcases h.form with ⟨_, h0, _⟩ | ⟨g, _, h, _⟩
  · omega
  · exact ⟨g, h⟩
/-- blocks that are no part of the two sides -/
structure Off (S : List Nat) (gs gr : Nat) (vs vr : Value) : Prop where
  s : gs ∉ S
  r : gr ∉ S
  vs : ∀ k, vs.ownBlock = some k → k ∉ S
  vr : ∀ k, vr.ownBlock = some k → k ∉ S
theorem St.off_ {w w' : World} {B gs gr id : Nat} {vs vr : Value} {s : Snd} {r : Rcv} {fb : List UInt8} {S : List Nat} (h : St w B gs gr vs vr s r id fb) (F : Frm S w w') (o : Off S gs gr vs vr) : St w' B gs gr vs vr s r id fb := h.frm F o.s o.r o.vs o.vr
theorem Off.new {w : World} {B gs gr id : Nat} {vs vr : Value} {s : Snd} {r : Rcv} {fb : List UInt8} {S : List Nat} (h : St w B gs gr vs vr s r id fb) (hS : ∀ k ∈ S, w.heap.size ≤ k) : Off S gs gr vs vr :=
  ⟨fun hx => by have := hS _ hx; have := h.sn.blk.lt; omega, fun hx => by have := hS _ hx; have := h.rv.blk.lt; omega, fun k hk hx => by have := hS _ hx; have := h.sn.own_lt k hk; omega, fun k hk hx => by have := hS _ hx; have := h.rv.own_lt k hk; omega⟩
theorem own_from {w : World} {B : Nat} {a : Option Addr} {n c : Nat} {l : List UInt8} (h : Ow w B a n c l) : ∀ k ∈ (Value.slice a n c).ownBlock.toList, B ≤ k := by
  intro k hk
  rw [Option.mem_toList] at hk
  exact (h.rw_.blk k hk).1
section
variable {w w' : World} {B gs gr id : Nat} {vs vr : Value} {s : Snd} {r : Rcv} {fb : List UInt8}
theorem St.ge_ (h : St w B gs gr vs vr s r id fb) : ∀ x ∈ gr :: vr.ownBlock.toList, B ≤ x := by
  intro x hx
  rcases List.mem_cons.1 hx with rfl | hx
  · exact h.rv.low
  · rw [Option.mem_toList] at hx
    obtain ⟨_, _, e2, ho2⟩ := h.rv.data
    rw [e2] at hx
    exact (ho2.rw_.blk x hx).1
theorem St.ty_ (h : St w B gs gr vs vr s r id fb) : ∀ t, t ≠ 181 → t ≠ 5 → Ty w (gr :: vr.ownBlock.toList) t := fun t h1 h2 => by
  obtain ⟨da, dc, hd, hO⟩ := h.rv.data
  exact (Ty.blk h.rv.blk (fun e => h1 e.symm)).cons (by rw [hd]; exact Ty.row hO.rw_ (fun e => h2 e.symm))
/-- a block of bytes that is not the receiver's -/
theorem St.nin (h : St w B gs gr vs vr s r id fb) {v : Value} (ht : ∀ q, v.ownBlock = some q → ∃ cur, w.heap[q]? = some (.cells cur 5 (0, 0))) (hs : ∀ q, vr.ownBlock = some q → v.ownBlock ≠ some q) : ∀ q, v.ownBlock = some q → q ∉ gr :: vr.ownBlock.toList := by
  intro q hq hx
  rcases List.mem_cons.1 hx with hx | hx
  · obtain ⟨cur, hc⟩ := ht q hq
    have hb := h.rv.blk
    unfold Blk at hb
    rw [hx, hb] at hc
    injection hc with hc
    injection hc with _ hc _
    cases hc
  · rw [Option.mem_toList] at hx
    exact hs q hx hq
theorem Ow.t5 {a : Option Addr} {n c : Nat} {l : List UInt8} (h : Ow w B a n c l) : ∀ q, (Value.slice a n c).ownBlock = some q → ∃ cur, w.heap[q]? = some (.cells cur 5 (0, 0)) := fun q hq => (h.rw_.blk q hq).2.2
theorem Els.t5 {xs : List Value} {ls : List (List UInt8)} (h : Els w B xs ls) : ∀ u ∈ xs, ∀ q, u.ownBlock = some q → ∃ cur, w.heap[q]? = some (.cells cur 5 (0, 0)) := by
  intro u hu q hq
  obtain ⟨i, hi⟩ := List.getElem?_of_mem hu
  have hlt3 := (List.getElem?_eq_some_iff.1 hi).1
  have hlt2 : i < ls.length := by rw [← h.len]; exact hlt3
  obtain ⟨a, c, h1, h2⟩ := h.at_ i ls[i] (List.getElem?_eq_getElem hlt2)
  rw [hi] at h1
  simp only [Option.some.injEq] at h1
  rw [h1] at hq
  exact h2.t5 q hq
end
set_option maxHeartbeats 8000000 in
theorem transferOwns_any (ad : Option Addr) (n c : Nat) (f : List UInt8) (t : Nat) (w0 : World) (hb : Bs w0 ad n f) (hz : ad = none → c = 0) (hn : n ≤ 140737488351232) (htt : t ≤ 255) :
    Calls Try.prog 29 #[.agg #[.slice ad n c, .int .u8 (t : Int)]] w0 fun e w' => e = .returned (.bool true) ∧ Ext w0 w' := by
  obtain ⟨fb, hfb⟩ : ∃ fb, fb = fileB f t := ⟨_, rfl⟩
  have hfl := fileB_len f t
  rw [← hfb] at hfl
  have hNC : (chunksT fb.length) ≤ 32 := by unfold chunksT; omega
  refine calls_has (args := [.agg #[.slice ad n c, .int .u8 (t : Int)]]) Try.func29 rfl Try.ntmps29 (Nat.le_of_ble_eq_true rfl) (fun a H => ?_)
  simp only [argl, Nat.reduceAdd] at H
  refine wp_seq_k (fun K1 hK1 => ?_)
  refine e_region (fun R hR => ?_)
  refine e_op H rfl rfl (by decide) (x_box H rfl rfl bx_new) ?_
  clear H a; intro a H
  have T3 := Blk.new w0 148 [.slice ad n c, .int .u8 (t : Int)]
  have E01 := (Ext.refl w0).al (.cells #[.slice ad n c, .int .u8 (t : Int)] 148)
  obtain ⟨g3, hg3⟩ : ∃ g, g = w0.heap.size := ⟨_, rfl⟩
  rw [← hg3] at H T3
  generalize w0.alloc (.cells #[.slice ad n c, .int .u8 (t : Int)] 148) = w1 at *
  refine e_op H rfl rfl (by decide) (x_assign H rfl rfl) ?_
  clear H a; intro a H
  refine e_nil (hR.out _ _ ?_)
  clear hR R
  refine hK1 _ _ ?_
  clear hK1 K1
  refine wp_seq_k (fun K2 hK2 => ?_)
  refine wp_seq_k (fun K3 hK3 => ?_)
  refine e_region (fun R hR => ?_)
  refine e_callq H rfl rfl (by decide) rfl rfl (Try.call51 _) (awake_any w1) ?_
  clear H a
  rintro e w2 ⟨rfl, E⟩
  refine ⟨_, rfl, fun a H => ?_⟩
  refine e_op H rfl rfl (by decide) (x_un H rfl rfl (u_not (c := false) (rfl))) ?_
  clear H a; intro a H
  refine e_nil (hR.out _ _ ?_)
  clear hR R
  refine hK3 _ _ ?_
  clear hK3 K3
  refine c_false H rfl ?_
  refine wp_skip ?_
  refine hK2 _ _ ?_
  clear hK2 K2
  refine wp_seq_k (fun K4 hK4 => ?_)
  refine e_region (fun R hR => ?_)
  refine e_op H rfl rfl (by decide) (x_load H rfl rfl (ld_file (T3.ext E))) ?_
  clear H a; intro a H
  refine e_callq H rfl rfl (by decide) rfl rfl (Try.call98 _) (bytesG_any ad n c f t fb hfb w2 (E.bs (E01.bs hb)) hz hn htt) ?_
  clear H a
  rintro e w3 ⟨fa, fc, rfl, OF, E3⟩
  refine ⟨_, rfl, fun a H => ?_⟩
  replace OF := OF.mono E.sz
  replace E := E.tr E3
  refine e_op H rfl rfl (by decide) (x_assign H rfl rfl) ?_
  clear H a; intro a H
  refine e_nil (hR.out _ _ ?_)
  clear hR R
  refine hK4 _ _ ?_
  clear hK4 K4
  refine wp_seq_k (fun K5 hK5 => ?_)
  refine e_region (fun R hR => ?_)
  refine e_op H rfl rfl (by decide) (x_move H rfl rfl) ?_
  clear H a; intro a H
  refine e_callq H rfl rfl (by decide) rfl rfl (Try.call99 _) (newSender_any 3 fa fb.length fc fb w3 OF.bs (ow_cap OF) (by omega) (by omega)) ?_
  clear H a
  rintro e w4 ⟨gs, vs, rfl, S4, hgs, E4⟩
  refine ⟨_, rfl, fun a H => ?_⟩
  refine e_op H rfl rfl (by decide) (x_move H rfl rfl) ?_
  clear H a; intro a H
  refine e_op H rfl rfl (by decide) (x_extract H rfl rfl (v := .pointer (some ⟨gs, 0, none⟩)) rfl) ?_
  clear H a; intro a H
  refine e_op H rfl rfl (by decide) (x_extract H rfl rfl (v := .int .i64 0) rfl) ?_
  clear H a; intro a H
  refine e_op H rfl rfl (by decide) (x_assign H rfl rfl) ?_
  clear H a; intro a H
  refine e_op H rfl rfl (by decide) (x_assign H rfl rfl) ?_
  clear H a; intro a H
  refine e_nil (hR.out _ _ ?_)
  clear hR R
  refine hK5 _ _ ?_
  clear hK5 K5
  refine wp_seq_k (fun K6 hK6 => ?_)
  refine e_region (fun R hR => ?_)
  refine e_callq H rfl rfl (by decide) rfl rfl (Try.call100 _) (newReceiver_any 3 w4 (by omega)) ?_
  clear H a
  rintro e w5 ⟨gr, rfl, R5, hgr, E5⟩
  refine ⟨_, rfl, fun a H => ?_⟩
  have S5 := S4.ext E5
  have hsz3 := E4.sz
  have hoF : ∀ x ∈ (Value.slice fa fb.length fc).ownBlock.toList, x < w3.heap.size := fun x hx => by rw [Option.mem_toList] at hx; exact (OF.rw_.blk x hx).2.1
  have hvs3 : ∀ q, vs.ownBlock = some q → w3.heap.size ≤ q := fun q hq => by
    obtain ⟨a, c, e, ho⟩ := S5.file
    rw [e] at hq
    exact (ho.rw_.blk q hq).1
  replace OF := (OF.ext_ E4).ext_ E5
  have ST0 : St w5 w1.heap.size gs gr vs (.slice none 0 0) ⟨3, fb, noMarks⟩ ⟨3, false, [], noMarks⟩ 3 fb := ⟨S5.mono E.sz, R5.mono (by have := E.sz; omega), rfl, rfl, Rcv.of_new 3 fb, fun q hq => hq, fun q hq => by cases hq⟩
  have o1 : Off (Value.slice fa fb.length fc).ownBlock.toList gs gr vs (.slice none 0 0) := ⟨fun hx => by have := hoF _ hx; omega, fun hx => by have := hoF _ hx; omega, fun q hq hx => by have := hoF _ hx; have := hvs3 q hq; omega, fun q hq => by cases hq⟩
  have E0 := (E.tr E4).tr E5
  refine e_op H rfl rfl (by decide) (x_assign H rfl rfl) ?_
  clear H a; intro a H
  refine e_nil (hR.out _ _ ?_)
  clear hR R
  refine hK6 _ _ ?_
  clear hK6 K6
  refine wp_seq_k (fun K7 hK7 => ?_)
  refine wp_seq_k (fun K8 hK8 => ?_)
  refine e_region (fun R hR => ?_)
  refine e_op H rfl rfl (by decide) (x_move H rfl rfl) ?_
  clear H a; intro a H
  refine e_op H rfl rfl (by decide) (x_binI H rfl rfl rfl (b_neq (b := false) (rfl))) ?_
  clear H a; intro a H
  refine e_op H rfl rfl (by decide) (x_move H rfl rfl) ?_
  clear H a; intro a H
  refine e_opg H (wanted_true H rfl rfl rfl rfl) rfl (by decide) (x_move H rfl rfl) ?_
  clear H a; intro a H
  refine e_opg H (wanted_true H rfl rfl rfl rfl) rfl (by decide) (x_bin H rfl rfl rfl (by rw [eqGuard_at_pointer]; rfl) (b_pnil (c := false) Try.underlying64 rfl)) ?_
  clear H a; intro a H
  refine e_op H rfl rfl (by decide) (x_pickF H rfl rfl rfl) ?_
  clear H a; intro a H
  refine e_op H rfl rfl (by decide) (x_move H rfl rfl) ?_
  clear H a; intro a H
  refine e_opg H (wanted_true H rfl rfl rfl rfl) rfl (by decide) (x_move H rfl rfl) ?_
  clear H a; intro a H
  refine e_opg H (wanted_true H rfl rfl rfl rfl) rfl (by decide) (x_bin H rfl rfl rfl (by rw [eqGuard_at_pointer]; rfl) (b_pnil (c := false) Try.underlying65 rfl)) ?_
  clear H a; intro a H
  refine e_op H rfl rfl (by decide) (x_pickF H rfl rfl rfl) ?_
  clear H a; intro a H
  refine e_nil (hR.out _ _ ?_)
  clear hR R
  refine hK8 _ _ ?_
  clear hK8 K8
  refine c_false H rfl ?_
  refine wp_skip ?_
  refine hK7 _ _ ?_
  clear hK7 K7
  refine wp_seq_k (fun K9 hK9 => ?_)
  refine wp_seq_k (fun K10 hK10 => ?_)
  refine e_region (fun R hR => ?_)
  refine e_op H rfl rfl (by decide) (x_move H rfl rfl) ?_
  clear H a; intro a H
  refine e_op H rfl rfl (by decide) (x_builtin H rfl rfl (fun cs => len_sl Try.underlying22)) ?_
  clear H a; intro a H
  refine e_op H rfl rfl (by decide) (x_move H rfl rfl) ?_
  clear H a; intro a H
  refine e_nil (hR.out _ _ ?_)
  clear hR R
  refine hK10 _ _ ?_
  clear hK10 K10
  refine wp_block ?_
  refine wp_loop_ghost (fun n' a w => ∃ j, j ≤ fb.length ∧ n' = fb.length - j ∧ Has a 122 [(1, .pointer (some ⟨g3, 0, none⟩)), (4, .pointer (some ⟨gs, 0, none⟩)), (6, .pointer (some ⟨gr, 0, none⟩)), (3, .slice fa fb.length fc), (38, .int .i64 ((fb.length : Nat) : Int)), (39, .int .i64 (j : Int))] ∧ Ow w w1.heap.size fa fb.length fc (bump fb j) ∧ Frm (Value.slice fa fb.length fc).ownBlock.toList w5 w) (fb.length) ?_ ?_
  · skip
    exact ⟨0, by omega, rfl, H.sub ⟨rfl, rfl, rfl, rfl, rfl, rfl, trivial⟩, by rw [bump_zero]; exact OF, Frm.refl _ _⟩
  · skip
    clear H
    intro n a w hI
    obtain ⟨j, hj, rfl, H, OJ, FJ⟩ := hI
    rcases (show j < fb.length ∨ j = fb.length by omega) with hlt | hje
    · skip
      obtain ⟨ga, hga⟩ : ∃ g, fa = some ⟨g, 0, none⟩ := by
        exact ow_pos OJ (by omega)
      rw [hga] at OJ
      obtain ⟨hcell, O2⟩ := bump_step OJ hlt
      refine wp_seq_k (fun K11 hK11 => ?_)
      refine e_region (fun R hR => ?_)
      refine e_op H rfl rfl (by decide) (x_binI H rfl rfl rfl (b_lss (b := true) (dec_t (by omega)))) ?_
      clear H a; intro a H
      refine e_nil (hR.out _ _ ?_)
      clear hR R
      refine hK11 _ _ ?_
      clear hK11 K11
      refine wp_seq_k (fun K12 hK12 => ?_)
      refine c_true H rfl ?_
      refine wp_skip ?_
      refine hK12 _ _ ?_
      clear hK12 K12
      refine wp_seq_k (fun K13 hK13 => ?_)
      refine wp_block ?_
      refine wp_seq_k (fun K14 hK14 => ?_)
      refine e_region (fun R hR => ?_)
      refine e_op H rfl rfl (by decide) (x_move H rfl rfl) ?_
      clear H a; intro a H
      refine e_op H rfl rfl (by decide) (x_assign H rfl rfl) ?_
      clear H a; intro a H
      refine e_nil (hR.out _ _ ?_)
      clear hR R
      refine hK14 _ _ ?_
      clear hK14 K14
      refine e_region (fun R hR => ?_)
      rw [hga] at H
      refine e_op H rfl rfl (by decide) (x_move H rfl rfl) ?_
      clear H a; intro a H
      refine e_op H rfl rfl (by decide) (x_move H rfl rfl) ?_
      clear H a; intro a H
      refine e_op H rfl rfl (by decide) (x_indexAddr H rfl rfl rfl (i_sl (m := j) Try.underlying22 Try.sizeOf5 rfl (by omega))) ?_
      clear H a; intro a H
      refine e_op H rfl rfl (by decide) (x_load H rfl rfl (l_cell Try.isAgg5 (hcell))) ?_
      clear H a; intro a H
      refine e_op H rfl rfl (by decide) (x_binI H rfl rfl rfl (b_add (z := (((fb[j]?.getD 0) + 1 : UInt8).toNat : Int)) (u8_inc _))) ?_
      clear H a; intro a H
      refine e_op H rfl rfl (by decide) (x_indexAddr H rfl rfl rfl (i_sl0 (m := j) Try.underlying22 Try.sizeOf5 rfl (by omega))) ?_
      clear H a; intro a H
      refine e_st H rfl rfl (x_store H rfl rfl rfl (st_cell rfl rfl Try.sizeOf5 (OJ.rw_.froz _) (by rw [Nat.zero_add] at hcell; rw [hcell]; rfl))) ?_
      refine e_nil (hR.out _ _ ?_)
      clear hR R
      rw [← hga] at H O2
      have F2 := FJ.st ga j (.int .u8 (((fb[j]?.getD 0) + 1 : UInt8).toNat : Int)) (.inl (by rw [hga]; simp [Value.ownBlock]))
      generalize w.setCell ⟨ga, j, none⟩ (.int .u8 (((fb[j]?.getD 0) + 1 : UInt8).toNat : Int)) = wb_ at *
      refine hK13 _ _ ?_
      clear hK13 K13
      refine e_region (fun R hR => ?_)
      refine e_op H rfl rfl (by decide) (x_binI H rfl rfl rfl (b_add (z := ((j + 1 : Nat) : Int)) (by rw [IntKind.wrap_i64]; omega))) ?_
      clear H a; intro a H
      refine e_op H rfl rfl (by decide) (x_move H rfl rfl) ?_
      clear H a; intro a H
      refine e_nil (hR.out _ _ ?_)
      clear hR R
      exact ⟨fb.length - (j + 1), by omega, j + 1, by omega, rfl, H.sub ⟨rfl, rfl, rfl, rfl, rfl, rfl, trivial⟩, O2, F2⟩
    · skip
      clear OJ hj
      skip
      refine wp_seq_k (fun K15 hK15 => ?_)
      refine e_region (fun R hR => ?_)
      refine e_op H rfl rfl (by decide) (x_binI H rfl rfl rfl (b_lss (b := false) (dec_f (by omega)))) ?_
      clear H a; intro a H
      refine e_nil (hR.out _ _ ?_)
      clear hR R
      refine hK15 _ _ ?_
      clear hK15 K15
      refine wp_seq_k (fun K16 hK16 => ?_)
      refine c_false H rfl ?_
      refine wp_exit ?_
      refine t_exit ?_
      refine t_exit ?_
      refine b_hit ?_
      clear hK16 K16
      refine hK9 _ _ ?_
      clear hK9 K9
      refine wp_seq_k (fun K17 hK17 => ?_)
      refine wp_seq_k (fun K18 hK18 => ?_)
      refine e_region (fun R hR => ?_)
      refine e_op H rfl rfl (by decide) (x_move H rfl rfl) ?_
      clear H a; intro a H
      refine e_nil (hR.out _ _ ?_)
      clear hR R
      have ST := ST0.off_ FJ o1
      have E := FJ.ext E0 (own_from OF)
      refine hK18 _ _ ?_
      clear hK18 K18
      refine wp_block ?_
      refine wp_loop_ghost (fun n' a w => ∃ k vr s r, k ≤ 40 ∧ n' = 40 - k ∧ Has a 122 [(1, .pointer (some ⟨g3, 0, none⟩)), (4, .pointer (some ⟨gs, 0, none⟩)), (6, .pointer (some ⟨gr, 0, none⟩)), (49, .int .i64 (k : Int))] ∧ St w w1.heap.size gs gr vs vr s r 3 fb ∧ (unm (gb s.acked) (chunksT fb.length)).length ≤ 32 - 8 * k ∧ Ext w1 w) (40) ?_ ?_
      · skip
        exact ⟨0, .slice none 0 0, ⟨3, fb, noMarks⟩, ⟨3, false, [], noMarks⟩, by omega, rfl, H.sub ⟨rfl, rfl, rfl, rfl, trivial⟩, ST, (by have := unm_len (gb noMarks) (chunksT fb.length); show (unm (gb noMarks) _).length ≤ _; omega), E⟩
      · skip
        clear H ST E
        intro n a w hI
        obtain ⟨k, vr, s, r, hk, rfl, H, ST, hU, E⟩ := hI
        rcases (show k < 40 ∨ k = 40 by omega) with hlt | hje
        · skip
          skip
          refine wp_seq_k (fun K19 hK19 => ?_)
          refine e_region (fun R hR => ?_)
          refine e_op H rfl rfl (by decide) (x_binI H rfl rfl rfl (b_lss (b := true) (dec_t (by omega)))) ?_
          clear H a; intro a H
          refine e_nil (hR.out _ _ ?_)
          clear hR R
          refine hK19 _ _ ?_
          clear hK19 K19
          refine wp_seq_k (fun K20 hK20 => ?_)
          refine c_true H rfl ?_
          refine wp_skip ?_
          refine hK20 _ _ ?_
          clear hK20 K20
          refine wp_seq_k (fun K21 hK21 => ?_)
          refine wp_block ?_
          refine wp_seq_k (fun K22 hK22 => ?_)
          refine wp_seq_k (fun K23 hK23 => ?_)
          refine e_region (fun R hR => ?_)
          obtain ⟨wo, hwo⟩ : ∃ x, x = w := ⟨_, rfl⟩
          rw [← hwo] at ST E ⊢
          clear hwo w
          refine e_op H rfl rfl (by decide) (x_move H rfl rfl) ?_
          clear H a; intro a H
          refine e_callq H rfl rfl (by decide) rfl rfl (Try.call52 _) (out_asc w1.heap.size gs vs s wo ST.sn) ?_
          clear H a
          rintro e wp ⟨vz, zs, rfl, RZ, EZ, Eo, hA⟩
          have STo := ST
          have hEo := E
          replace ST := ST.ext Eo
          replace E := E.tr Eo
          obtain ⟨za, zc, rfl, _⟩ := RZ.shape
          obtain ⟨us, hus⟩ : ∃ us, us = (unm (gb s.acked) (chunksT fb.length)).take 8 := ⟨_, rfl⟩
          rw [ST.sid, ST.sfile, ← hus] at EZ
          have hzl : zs.length = us.length := by rw [EZ.len, List.length_map]
          have hul : us.length = min 8 (unm (gb s.acked) (chunksT fb.length)).length := by rw [hus, List.length_take]
          have hzb : ∀ u ∈ zs, ∀ q, u.ownBlock = some q → wo.heap.size ≤ q := fun u hu q hq => (EZ.blks u hu q hq).1
          have hzlt : ∀ u ∈ zs, ∀ q, u.ownBlock = some q → q < wp.heap.size := fun u hu q hq => (EZ.blks u hu q hq).2
          have sp0 : ∀ u ∈ zs, ∀ q, vr.ownBlock = some q → u.ownBlock ≠ some q := fun u hu q hq e => by have := STo.rv.own_lt q hq; have := hzb u hu q e; omega
          replace EZ := EZ.mono (Nat.zero_le _)
          refine ⟨_, rfl, fun a H => ?_⟩
          refine e_op H rfl rfl (by decide) (x_builtin H rfl rfl (fun cs => len_sl Try.underlying37)) ?_
          clear H a; intro a H
          refine e_op H rfl rfl (by decide) (x_move H rfl rfl) ?_
          clear H a; intro a H
          refine e_nil (hR.out _ _ ?_)
          clear hR R
          refine hK23 _ _ ?_
          clear hK23 K23
          refine wp_block ?_
          refine wp_loop_ghost (fun n' a w => ∃ i vr2 r2, i ≤ zs.length ∧ n' = zs.length - i ∧ Has a 122 [(1, .pointer (some ⟨g3, 0, none⟩)), (4, .pointer (some ⟨gs, 0, none⟩)), (6, .pointer (some ⟨gr, 0, none⟩)), (49, .int .i64 (k : Int)), (52, .slice za zs.length zc), (53, .int .i64 ((zs.length : Nat) : Int)), (54, .int .i64 (i : Int))] ∧ St w w1.heap.size gs gr vs vr2 s r2 3 fb ∧ (∀ q, gb r.has q = true → gb r2.has q = true) ∧ (∀ q, q ∈ us.take i → gb r2.has q = true) ∧ Rw w wo.heap.size 22 (.slice za zs.length zc) zs ∧ Els w 0 (zs.drop i) ((us.map (pkt 3 fb)).drop i) ∧ (∀ u ∈ zs, ∀ q, vr2.ownBlock = some q → u.ownBlock ≠ some q) ∧ Ext w1 w ∧ wp.heap.size ≤ w.heap.size) (zs.length) ?_ ?_
          · skip
            exact ⟨0, vr, r, by omega, rfl, H.sub ⟨rfl, rfl, rfl, rfl, rfl, rfl, rfl, trivial⟩, ST, fun _ h => h, fun q hq => by simp at hq, RZ, EZ, sp0, E, Nat.le_refl _⟩
          · skip
            clear H ST RZ EZ E
            intro n a w hI
            obtain ⟨i, vr2, r2, hi, rfl, H, ST, GM, GU, RZ, EZ, sp, E, hEw⟩ := hI
            rcases (show i < zs.length ∨ i = zs.length by omega) with hlt | hie
            · skip
              obtain ⟨kk, hkk⟩ : ∃ k, us[i]? = some k := ⟨us[i], List.getElem?_eq_getElem (by omega)⟩
              have hkc : kk < (chunksT fb.length) := (mem_unm.1 (List.mem_of_mem_take (hus ▸ List.mem_of_getElem? hkk))).1
              have hrl : ((us.map (pkt 3 fb)).drop i)[0]? = some (pkt 3 fb kk) := by rw [List.getElem?_drop, Nat.add_zero, List.getElem?_map, hkk]; rfl
              obtain ⟨ap_, cp, hzi, hOp⟩ := EZ.at_ 0 _ hrl
              rw [List.getElem?_drop, Nat.add_zero] at hzi
              obtain ⟨gz, oz, zc2, hzz⟩ := RZ.pos (by omega)
              simp only [Value.slice.injEq] at hzz
              obtain ⟨hza, _, rfl⟩ := hzz
              rw [hza] at H RZ
              have hcl := RZ.cells i _ hzi
              obtain ⟨pk, hpk⟩ : ∃ l, l = pkt 3 fb kk := ⟨_, rfl⟩
              have hpl := pkt_len 3 fb kk (by omega) (by omega) (by omega)
              rw [← hpk] at hOp hcl hzi hpl
              have hcp : True = True := rfl
              have hpb : ∀ x ∈ (Value.slice ap_ pk.length cp).ownBlock.toList, wo.heap.size ≤ x := fun x hx => by
                rw [Option.mem_toList] at hx
                exact hzb _ (List.mem_of_getElem? hzi) x hx
              refine wp_seq_k (fun K24 hK24 => ?_)
              refine e_region (fun R hR => ?_)
              refine e_op H rfl rfl (by decide) (x_binI H rfl rfl rfl (b_lss (b := true) (dec_t (by omega)))) ?_
              clear H a; intro a H
              refine e_nil (hR.out _ _ ?_)
              clear hR R
              refine hK24 _ _ ?_
              clear hK24 K24
              refine wp_seq_k (fun K25 hK25 => ?_)
              refine c_true H rfl ?_
              refine wp_skip ?_
              refine hK25 _ _ ?_
              clear hK25 K25
              refine wp_seq_k (fun K26 hK26 => ?_)
              refine wp_block ?_
              refine wp_seq_k (fun K27 hK27 => ?_)
              refine e_region (fun R hR => ?_)
              refine e_op H rfl rfl (by decide) (x_indexAddr H rfl rfl rfl (i_sl (m := i) Try.underlying37 Try.sizeOf22 rfl (by omega))) ?_
              clear H a; intro a H
              refine e_op H rfl rfl (by decide) (x_load H rfl rfl (l_cell Try.isAgg22 (hcl))) ?_
              clear H a; intro a H
              refine e_op H rfl rfl (by decide) (x_assign H rfl rfl) ?_
              clear H a; intro a H
              refine e_nil (hR.out _ _ ?_)
              clear hR R
              refine hK27 _ _ ?_
              clear hK27 K27
              refine wp_seq_k (fun K28 hK28 => ?_)
              refine wp_seq_k (fun K29 hK29 => ?_)
              refine e_region (fun R hR => ?_)
              obtain ⟨a1, c1, wc, hr, O1, E1c⟩ := app_new hOp.bs (by omega) (ow_cap hOp)
              refine e_op H rfl rfl (by decide) (x_move H rfl rfl) ?_
              clear H a; intro a H
              refine e_op H rfl rfl (by decide) (x_buildSlice H rfl rfl (bs0 _)) ?_
              clear H a; intro a H
              refine e_op H rfl rfl (by decide) (x_move H rfl rfl) ?_
              clear H a; intro a H
              refine e_op H rfl rfl (by decide) (x_builtin H rfl rfl (fun cs => bi_app hr)) ?_
              clear H a; intro a H
              refine e_callq H rfl rfl (by decide) rfl rfl (Try.call56 _) ((ST.ext E1c).in_ (by omega) (by omega) (i := kk) hkc (hpk ▸ O1.bs) (ow_cap O1) (ow_le O1)) ?_
              clear H a
              rintro e w3 ⟨rfl, v3, r3, ST3, G2, FY, hwy⟩
              have E3 := FY.ext (E.tr E1c) (St.ge_ (ST.ext E1c))
              have TY5 := St.ty_ (ST.ext E1c)
              have RZ3 := (RZ.ext E1c).ty FY (TY5 22 (by decide) (by decide))
              have EZ3 := (EZ.ext E1c).off FY (fun u hu => St.nin (ST.ext E1c) (Els.t5 (EZ.ext E1c) u hu) (sp u (List.mem_of_mem_drop hu)))
              have OP3 := (hOp.ext_ E1c).off FY (St.nin (ST.ext E1c) (Ow.t5 (hOp.ext_ E1c)) (sp _ (List.mem_of_getElem? hzi)))
              have sp3 : ∀ u ∈ zs, ∀ q, v3.ownBlock = some q → u.ownBlock ≠ some q := fun u hu q hq e => by
                rcases hwy with hwy | ⟨q2, hwy, hge⟩
                · exact sp u hu q (hwy ▸ hq) e
                · rw [hwy] at hq
                  cases hq
                  have := hzlt u hu q e
                  have := hEw
                  have := E1c.sz
                  omega
              have o4 : Off (Value.slice ap_ pk.length cp).ownBlock.toList gs gr vs v3 := by
                refine ⟨fun hx => ?_, fun hx => ?_, fun q hq hx => ?_, fun q hq hx => ?_⟩
                · have := hpb _ hx; have := STo.sn.blk.lt; omega
                · have := hpb _ hx; have := STo.rv.blk.lt; omega
                · have := hpb _ hx; have := STo.sn.own_lt q hq; omega
                · rw [Option.mem_toList] at hx
                  exact sp3 _ (List.mem_of_getElem? hzi) q hq hx
              refine ⟨_, rfl, fun a H => ?_⟩
              refine e_op H rfl rfl (by decide) (x_binI H rfl rfl rfl (b_neq (b := false) (rfl))) ?_
              clear H a; intro a H
              refine e_nil (hR.out _ _ ?_)
              clear hR R
              refine hK29 _ _ ?_
              clear hK29 K29
              refine c_false H rfl ?_
              refine wp_skip ?_
              refine hK28 _ _ ?_
              clear hK28 K28
              refine wp_seq_k (fun K30 hK30 => ?_)
              refine e_region (fun R hR => ?_)
              refine e_op H rfl rfl (by decide) (x_move H rfl rfl) ?_
              clear H a; intro a H
              refine e_op H rfl rfl (by decide) (x_builtin H rfl rfl (fun cs => len_sl Try.underlying22)) ?_
              clear H a; intro a H
              refine e_op H rfl rfl (by decide) (x_move H rfl rfl) ?_
              clear H a; intro a H
              refine e_nil (hR.out _ _ ?_)
              clear hR R
              refine hK30 _ _ ?_
              clear hK30 K30
              refine wp_block ?_
              refine wp_loop_ghost (fun n' a w => ∃ j, j ≤ pk.length ∧ n' = pk.length - j ∧ Has a 122 [(1, .pointer (some ⟨g3, 0, none⟩)), (4, .pointer (some ⟨gs, 0, none⟩)), (6, .pointer (some ⟨gr, 0, none⟩)), (49, .int .i64 (k : Int)), (52, .slice (some ⟨gz, oz, none⟩) zs.length zc), (53, .int .i64 ((zs.length : Nat) : Int)), (54, .int .i64 (i : Int)), (9, .slice ap_ pk.length cp), (65, .int .i64 ((pk.length : Nat) : Int)), (66, .int .i64 (j : Int))] ∧ Ow w 0 ap_ pk.length cp (bump pk j) ∧ Frm (Value.slice ap_ pk.length cp).ownBlock.toList w3 w) (pk.length) ?_ ?_
              · skip
                exact ⟨0, by omega, rfl, H.sub ⟨rfl, rfl, rfl, rfl, rfl, rfl, rfl, rfl, rfl, rfl, trivial⟩, by rw [bump_zero]; exact OP3, Frm.refl _ _⟩
              · skip
                clear H
                intro n a w hI
                obtain ⟨j, hj, rfl, H, OJ, FJ⟩ := hI
                rcases (show j < pk.length ∨ j = pk.length by omega) with hlt | hje
                · skip
                  obtain ⟨ga, hga⟩ : ∃ g, ap_ = some ⟨g, 0, none⟩ := by
                    exact ow_pos OJ (by omega)
                  rw [hga] at OJ
                  obtain ⟨hcell, O2⟩ := bump_step OJ hlt
                  refine wp_seq_k (fun K31 hK31 => ?_)
                  refine e_region (fun R hR => ?_)
                  refine e_op H rfl rfl (by decide) (x_binI H rfl rfl rfl (b_lss (b := true) (dec_t (by omega)))) ?_
                  clear H a; intro a H
                  refine e_nil (hR.out _ _ ?_)
                  clear hR R
                  refine hK31 _ _ ?_
                  clear hK31 K31
                  refine wp_seq_k (fun K32 hK32 => ?_)
                  refine c_true H rfl ?_
                  refine wp_skip ?_
                  refine hK32 _ _ ?_
                  clear hK32 K32
                  refine wp_seq_k (fun K33 hK33 => ?_)
                  refine wp_block ?_
                  refine wp_seq_k (fun K34 hK34 => ?_)
                  refine e_region (fun R hR => ?_)
                  refine e_op H rfl rfl (by decide) (x_move H rfl rfl) ?_
                  clear H a; intro a H
                  refine e_op H rfl rfl (by decide) (x_assign H rfl rfl) ?_
                  clear H a; intro a H
                  refine e_nil (hR.out _ _ ?_)
                  clear hR R
                  refine hK34 _ _ ?_
                  clear hK34 K34
                  refine e_region (fun R hR => ?_)
                  rw [hga] at H
                  refine e_op H rfl rfl (by decide) (x_move H rfl rfl) ?_
                  clear H a; intro a H
                  refine e_op H rfl rfl (by decide) (x_move H rfl rfl) ?_
                  clear H a; intro a H
                  refine e_op H rfl rfl (by decide) (x_indexAddr H rfl rfl rfl (i_sl (m := j) Try.underlying22 Try.sizeOf5 rfl (by omega))) ?_
                  clear H a; intro a H
                  refine e_op H rfl rfl (by decide) (x_load H rfl rfl (l_cell Try.isAgg5 (hcell))) ?_
                  clear H a; intro a H
                  refine e_op H rfl rfl (by decide) (x_binI H rfl rfl rfl (b_add (z := (((pk[j]?.getD 0) + 1 : UInt8).toNat : Int)) (u8_inc _))) ?_
                  clear H a; intro a H
                  refine e_op H rfl rfl (by decide) (x_indexAddr H rfl rfl rfl (i_sl0 (m := j) Try.underlying22 Try.sizeOf5 rfl (by omega))) ?_
                  clear H a; intro a H
                  refine e_st H rfl rfl (x_store H rfl rfl rfl (st_cell rfl rfl Try.sizeOf5 (OJ.rw_.froz _) (by rw [Nat.zero_add] at hcell; rw [hcell]; rfl))) ?_
                  refine e_nil (hR.out _ _ ?_)
                  clear hR R
                  rw [← hga] at H O2
                  have F2 := FJ.st ga j (.int .u8 (((pk[j]?.getD 0) + 1 : UInt8).toNat : Int)) (.inl (by rw [hga]; simp [Value.ownBlock]))
                  generalize w.setCell ⟨ga, j, none⟩ (.int .u8 (((pk[j]?.getD 0) + 1 : UInt8).toNat : Int)) = wb_ at *
                  refine hK33 _ _ ?_
                  clear hK33 K33
                  refine e_region (fun R hR => ?_)
                  refine e_op H rfl rfl (by decide) (x_binI H rfl rfl rfl (b_add (z := ((j + 1 : Nat) : Int)) (by rw [IntKind.wrap_i64]; omega))) ?_
                  clear H a; intro a H
                  refine e_op H rfl rfl (by decide) (x_move H rfl rfl) ?_
                  clear H a; intro a H
                  refine e_nil (hR.out _ _ ?_)
                  clear hR R
                  exact ⟨pk.length - (j + 1), by omega, j + 1, by omega, rfl, H.sub ⟨rfl, rfl, rfl, rfl, rfl, rfl, rfl, rfl, rfl, rfl, trivial⟩, O2, F2⟩
                · skip
                  clear OJ hj
                  skip
                  refine wp_seq_k (fun K35 hK35 => ?_)
                  refine e_region (fun R hR => ?_)
                  refine e_op H rfl rfl (by decide) (x_binI H rfl rfl rfl (b_lss (b := false) (dec_f (by omega)))) ?_
                  clear H a; intro a H
                  refine e_nil (hR.out _ _ ?_)
                  clear hR R
                  refine hK35 _ _ ?_
                  clear hK35 K35
                  refine wp_seq_k (fun K36 hK36 => ?_)
                  refine c_false H rfl ?_
                  refine wp_exit ?_
                  refine t_exit ?_
                  refine t_exit ?_
                  refine b_hit ?_
                  clear hK36 K36
                  refine hK26 _ _ ?_
                  clear hK26 K26
                  refine e_region (fun R hR => ?_)
                  refine e_op H rfl rfl (by decide) (x_binI H rfl rfl rfl (b_add (z := ((i + 1 : Nat) : Int)) (by rw [IntKind.wrap_i64]; omega))) ?_
                  clear H a; intro a H
                  refine e_op H rfl rfl (by decide) (x_move H rfl rfl) ?_
                  clear H a; intro a H
                  refine e_nil (hR.out _ _ ?_)
                  clear hR R
                  have G2' : ∀ q, gb r3.has q = (gb r2.has q || decide (q = kk)) := G2
                  rw [← hza] at H
                  refine ⟨zs.length - (i + 1), by omega, i + 1, v3, r3, by omega, rfl, H.sub ⟨rfl, rfl, rfl, rfl, rfl, rfl, rfl, trivial⟩, ST3.off_ FJ o4, fun q hq => by rw [G2', GM q hq]; rfl, fun q hq => ?_, (by rw [hza]; exact RZ3.ty FJ (Ty.row OP3.rw_ (by decide))), ?_, sp3, FJ.ext E3 (fun x hx => Nat.le_trans hEo.sz (hpb x hx)), Nat.le_trans hEw (Nat.le_trans E1c.sz (Nat.le_trans FY.size FJ.size))⟩
                  · rw [List.take_add_one, hkk] at hq
                    rcases List.mem_append.1 hq with hq | hq
                    · rw [G2', GU q hq]; rfl
                    · rw [G2']
                      have : q = kk := by simpa using hq
                      rw [decide_eq_true this, Bool.or_true]
                  · have h1 := EZ3.dp 1
                    rw [List.drop_drop, List.drop_drop] at h1
                    refine h1.off FJ (fun u hu m hm hx => ?_)
                    rw [Option.mem_toList] at hx
                    obtain ⟨y, hy⟩ := List.getElem?_of_mem hu
                    rw [List.getElem?_drop] at hy
                    have := hA i (i + 1 + y) _ u m m (by omega) hzi hy hx hm
                    omega
            · skip
              rw [hie] at GU
              clear RZ EZ
              refine wp_seq_k (fun K37 hK37 => ?_)
              refine e_region (fun R hR => ?_)
              refine e_op H rfl rfl (by decide) (x_binI H rfl rfl rfl (b_lss (b := false) (dec_f (by omega)))) ?_
              clear H a; intro a H
              refine e_nil (hR.out _ _ ?_)
              clear hR R
              refine hK37 _ _ ?_
              clear hK37 K37
              refine wp_seq_k (fun K38 hK38 => ?_)
              refine c_false H rfl ?_
              refine wp_exit ?_
              refine t_exit ?_
              refine t_exit ?_
              refine b_hit ?_
              clear hK38 K38
              refine hK22 _ _ ?_
              clear hK22 K22
              refine wp_seq_k (fun K39 hK39 => ?_)
              refine e_region (fun R hR => ?_)
              obtain ⟨wa, hwa⟩ : ∃ x, x = w := ⟨_, rfl⟩
              rw [← hwa] at ST E hEw ⊢
              clear hwa w
              refine e_op H rfl rfl (by decide) (x_move H rfl rfl) ?_
              clear H a; intro a H
              refine e_callq H rfl rfl (by decide) rfl rfl (Try.call57 _) (ack_any w1.heap.size gr vr2 r2 wa ST.rv) ?_
              clear H a
              rintro e wk ⟨ka, kc, rfl, OA, Ek⟩
              have o5 := Off.new ST (own_from OA)
              have hE3 := E
              replace ST := ST.ext Ek
              replace E := E.tr Ek
              have hidy : r2.id = 3 := ST.rof.id_
              have hacy := ackP_len r2.id r2.has (by omega)
              have hayl : (ackP r2.id r2.has).length ≤ 1000 := by unfold ackP; rw [tseal_len]; omega
              refine ⟨_, rfl, fun a H => ?_⟩
              refine e_op H rfl rfl (by decide) (x_assign H rfl rfl) ?_
              clear H a; intro a H
              refine e_nil (hR.out _ _ ?_)
              clear hR R
              refine hK39 _ _ ?_
              clear hK39 K39
              refine wp_seq_k (fun K40 hK40 => ?_)
              refine wp_seq_k (fun K41 hK41 => ?_)
              refine e_region (fun R hR => ?_)
              refine e_op H rfl rfl (by decide) (x_move H rfl rfl) ?_
              clear H a; intro a H
              refine e_op H rfl rfl (by decide) (x_move H rfl rfl) ?_
              clear H a; intro a H
              refine e_callq H rfl rfl (by decide) rfl rfl (Try.call53 _) (ST.ack_ (by omega) OA.bs (ow_cap OA) (ow_le OA)) ?_
              clear H a
              rintro e w4 ⟨rfl, s3, ST4, g5, Fa⟩
              have OA4 : Ow w4 wa.heap.size ka (ackP r2.id r2.has).length kc (ackP r2.id r2.has) := OA.ty Fa (Ty.blk ST.sn.blk (by decide))
              have E4 : Ext w1 w4 := Fa.ext E (by intro x hx; simp only [List.mem_singleton] at hx; rw [hx]; exact ST.sn.low)
              have hrd : (unm (gb s3.acked) (chunksT fb.length)).length ≤ (unm (gb s.acked) (chunksT fb.length)).length - min 8 (unm (gb s.acked) (chunksT fb.length)).length := by
                rw [unm_congr (fun k _ => g5 k)]
                exact left_round _ _ _ (fun k hk => GU k (by rw [List.take_of_length_le (by omega), hus]; exact hk))
              obtain ⟨ap, hap⟩ : ∃ l, l = ackP r2.id r2.has := ⟨_, rfl⟩
              rw [← hap] at OA4 OA o5
              have hapl : ap.length ≤ 1000 := by rw [hap]; exact hayl
              refine ⟨_, rfl, fun a H => ?_⟩
              rw [← hap] at H
              refine e_op H rfl rfl (by decide) (x_binI H rfl rfl rfl (b_neq (b := false) (rfl))) ?_
              clear H a; intro a H
              refine e_nil (hR.out _ _ ?_)
              clear hR R
              refine hK41 _ _ ?_
              clear hK41 K41
              refine c_false H rfl ?_
              refine wp_skip ?_
              refine hK40 _ _ ?_
              clear hK40 K40
              refine wp_seq_k (fun K42 hK42 => ?_)
              refine wp_seq_k (fun K43 hK43 => ?_)
              refine e_region (fun R hR => ?_)
              refine e_op H rfl rfl (by decide) (x_move H rfl rfl) ?_
              clear H a; intro a H
              refine e_op H rfl rfl (by decide) (x_builtin H rfl rfl (fun cs => len_sl Try.underlying22)) ?_
              clear H a; intro a H
              refine e_op H rfl rfl (by decide) (x_move H rfl rfl) ?_
              clear H a; intro a H
              refine e_nil (hR.out _ _ ?_)
              clear hR R
              refine hK43 _ _ ?_
              clear hK43 K43
              refine wp_block ?_
              refine wp_loop_ghost (fun n' a w => ∃ j, j ≤ ap.length ∧ n' = ap.length - j ∧ Has a 122 [(1, .pointer (some ⟨g3, 0, none⟩)), (4, .pointer (some ⟨gs, 0, none⟩)), (6, .pointer (some ⟨gr, 0, none⟩)), (49, .int .i64 (k : Int)), (11, .slice ka ap.length kc), (84, .int .i64 ((ap.length : Nat) : Int)), (85, .int .i64 (j : Int))] ∧ Ow w wa.heap.size ka ap.length kc (bump ap j) ∧ Frm (Value.slice ka ap.length kc).ownBlock.toList w4 w) (ap.length) ?_ ?_
              · skip
                exact ⟨0, by omega, rfl, H.sub ⟨rfl, rfl, rfl, rfl, rfl, rfl, rfl, trivial⟩, by rw [bump_zero]; exact OA4, Frm.refl _ _⟩
              · skip
                clear H
                intro n a w hI
                obtain ⟨j, hj, rfl, H, OJ, FJ⟩ := hI
                rcases (show j < ap.length ∨ j = ap.length by omega) with hlt | hje
                · skip
                  obtain ⟨ga, hga⟩ : ∃ g, ka = some ⟨g, 0, none⟩ := by
                    exact ow_pos OJ (by omega)
                  rw [hga] at OJ
                  obtain ⟨hcell, O2⟩ := bump_step OJ hlt
                  refine wp_seq_k (fun K44 hK44 => ?_)
                  refine e_region (fun R hR => ?_)
                  refine e_op H rfl rfl (by decide) (x_binI H rfl rfl rfl (b_lss (b := true) (dec_t (by omega)))) ?_
                  clear H a; intro a H
                  refine e_nil (hR.out _ _ ?_)
                  clear hR R
                  refine hK44 _ _ ?_
                  clear hK44 K44
                  refine wp_seq_k (fun K45 hK45 => ?_)
                  refine c_true H rfl ?_
                  refine wp_skip ?_
                  refine hK45 _ _ ?_
                  clear hK45 K45
                  refine wp_seq_k (fun K46 hK46 => ?_)
                  refine wp_block ?_
                  refine wp_seq_k (fun K47 hK47 => ?_)
                  refine e_region (fun R hR => ?_)
                  refine e_op H rfl rfl (by decide) (x_move H rfl rfl) ?_
                  clear H a; intro a H
                  refine e_op H rfl rfl (by decide) (x_assign H rfl rfl) ?_
                  clear H a; intro a H
                  refine e_nil (hR.out _ _ ?_)
                  clear hR R
                  refine hK47 _ _ ?_
                  clear hK47 K47
                  refine e_region (fun R hR => ?_)
                  rw [hga] at H
                  refine e_op H rfl rfl (by decide) (x_move H rfl rfl) ?_
                  clear H a; intro a H
                  refine e_op H rfl rfl (by decide) (x_move H rfl rfl) ?_
                  clear H a; intro a H
                  refine e_op H rfl rfl (by decide) (x_indexAddr H rfl rfl rfl (i_sl (m := j) Try.underlying22 Try.sizeOf5 rfl (by omega))) ?_
                  clear H a; intro a H
                  refine e_op H rfl rfl (by decide) (x_load H rfl rfl (l_cell Try.isAgg5 (hcell))) ?_
                  clear H a; intro a H
                  refine e_op H rfl rfl (by decide) (x_binI H rfl rfl rfl (b_add (z := (((ap[j]?.getD 0) + 1 : UInt8).toNat : Int)) (u8_inc _))) ?_
                  clear H a; intro a H
                  refine e_op H rfl rfl (by decide) (x_indexAddr H rfl rfl rfl (i_sl0 (m := j) Try.underlying22 Try.sizeOf5 rfl (by omega))) ?_
                  clear H a; intro a H
                  refine e_st H rfl rfl (x_store H rfl rfl rfl (st_cell rfl rfl Try.sizeOf5 (OJ.rw_.froz _) (by rw [Nat.zero_add] at hcell; rw [hcell]; rfl))) ?_
                  refine e_nil (hR.out _ _ ?_)
                  clear hR R
                  rw [← hga] at H O2
                  have F2 := FJ.st ga j (.int .u8 (((ap[j]?.getD 0) + 1 : UInt8).toNat : Int)) (.inl (by rw [hga]; simp [Value.ownBlock]))
                  generalize w.setCell ⟨ga, j, none⟩ (.int .u8 (((ap[j]?.getD 0) + 1 : UInt8).toNat : Int)) = wb_ at *
                  refine hK46 _ _ ?_
                  clear hK46 K46
                  refine e_region (fun R hR => ?_)
                  refine e_op H rfl rfl (by decide) (x_binI H rfl rfl rfl (b_add (z := ((j + 1 : Nat) : Int)) (by rw [IntKind.wrap_i64]; omega))) ?_
                  clear H a; intro a H
                  refine e_op H rfl rfl (by decide) (x_move H rfl rfl) ?_
                  clear H a; intro a H
                  refine e_nil (hR.out _ _ ?_)
                  clear hR R
                  exact ⟨ap.length - (j + 1), by omega, j + 1, by omega, rfl, H.sub ⟨rfl, rfl, rfl, rfl, rfl, rfl, rfl, trivial⟩, O2, F2⟩
                · skip
                  clear OJ hj
                  skip
                  refine wp_seq_k (fun K48 hK48 => ?_)
                  refine e_region (fun R hR => ?_)
                  refine e_op H rfl rfl (by decide) (x_binI H rfl rfl rfl (b_lss (b := false) (dec_f (by omega)))) ?_
                  clear H a; intro a H
                  refine e_nil (hR.out _ _ ?_)
                  clear hR R
                  refine hK48 _ _ ?_
                  clear hK48 K48
                  refine wp_seq_k (fun K49 hK49 => ?_)
                  refine c_false H rfl ?_
                  refine wp_exit ?_
                  refine t_exit ?_
                  refine t_exit ?_
                  refine b_hit ?_
                  clear hK49 K49
                  refine hK42 _ _ ?_
                  clear hK42 K42
                  refine wp_seq_k (fun K50 hK50 => ?_)
                  refine e_region (fun R hR => ?_)
                  obtain ⟨w5, hw5⟩ : ∃ x, x = w := ⟨_, rfl⟩
                  rw [← hw5] at FJ ⊢
                  clear hw5 w
                  have ST5 := ST4.off_ FJ o5
                  have E5 := FJ.ext E4 (fun x hx => Nat.le_trans hE3.sz (own_from OA x hx))
                  refine e_op H rfl rfl (by decide) (x_move H rfl rfl) ?_
                  clear H a; intro a H
                  refine e_callq H rfl rfl (by decide) rfl rfl (Try.call58 _) (prefix_any w1.heap.size gr vr2 r2 w5 ST5.rv) ?_
                  clear H a
                  rintro e w6 ⟨ga6, gc6, rfl, O6, Eg6⟩
                  have ST6 := ST5.ext Eg6
                  have E6 := E5.tr Eg6
                  have o6 := Off.new ST5 (own_from O6)
                  have h6l : r2.prefix_.length ≤ 65535 := by rw [ST5.rof.prefix_, List.length_take]; omega
                  refine ⟨_, rfl, fun a H => ?_⟩
                  refine e_op H rfl rfl (by decide) (x_assign H rfl rfl) ?_
                  clear H a; intro a H
                  refine e_nil (hR.out _ _ ?_)
                  clear hR R
                  refine hK50 _ _ ?_
                  clear hK50 K50
                  refine wp_seq_k (fun K51 hK51 => ?_)
                  refine e_region (fun R hR => ?_)
                  refine e_op H rfl rfl (by decide) (x_move H rfl rfl) ?_
                  clear H a; intro a H
                  refine e_op H rfl rfl (by decide) (x_builtin H rfl rfl (fun cs => len_sl Try.underlying22)) ?_
                  clear H a; intro a H
                  refine e_op H rfl rfl (by decide) (x_move H rfl rfl) ?_
                  clear H a; intro a H
                  refine e_nil (hR.out _ _ ?_)
                  clear hR R
                  refine hK51 _ _ ?_
                  clear hK51 K51
                  refine wp_block ?_
                  refine wp_loop_ghost (fun n' a w => ∃ j, j ≤ r2.prefix_.length ∧ n' = r2.prefix_.length - j ∧ Has a 122 [(1, .pointer (some ⟨g3, 0, none⟩)), (4, .pointer (some ⟨gs, 0, none⟩)), (6, .pointer (some ⟨gr, 0, none⟩)), (49, .int .i64 (k : Int)), (13, .slice ga6 r2.prefix_.length gc6), (98, .int .i64 ((r2.prefix_.length : Nat) : Int)), (99, .int .i64 (j : Int))] ∧ Ow w w5.heap.size ga6 r2.prefix_.length gc6 (bump r2.prefix_ j) ∧ Frm (Value.slice ga6 r2.prefix_.length gc6).ownBlock.toList w6 w) (r2.prefix_.length) ?_ ?_
                  · skip
                    exact ⟨0, by omega, rfl, H.sub ⟨rfl, rfl, rfl, rfl, rfl, rfl, rfl, trivial⟩, by rw [bump_zero]; exact O6, Frm.refl _ _⟩
                  · skip
                    clear H
                    intro n a w hI
                    obtain ⟨j, hj, rfl, H, OJ, FJ⟩ := hI
                    rcases (show j < r2.prefix_.length ∨ j = r2.prefix_.length by omega) with hlt | hje
                    · skip
                      obtain ⟨ga, hga⟩ : ∃ g, ga6 = some ⟨g, 0, none⟩ := by
                        exact ow_pos OJ (by omega)
                      rw [hga] at OJ
                      obtain ⟨hcell, O2⟩ := bump_step OJ hlt
                      refine wp_seq_k (fun K52 hK52 => ?_)
                      refine e_region (fun R hR => ?_)
                      refine e_op H rfl rfl (by decide) (x_binI H rfl rfl rfl (b_lss (b := true) (dec_t (by omega)))) ?_
                      clear H a; intro a H
                      refine e_nil (hR.out _ _ ?_)
                      clear hR R
                      refine hK52 _ _ ?_
                      clear hK52 K52
                      refine wp_seq_k (fun K53 hK53 => ?_)
                      refine c_true H rfl ?_
                      refine wp_skip ?_
                      refine hK53 _ _ ?_
                      clear hK53 K53
                      refine wp_seq_k (fun K54 hK54 => ?_)
                      refine wp_block ?_
                      refine wp_seq_k (fun K55 hK55 => ?_)
                      refine e_region (fun R hR => ?_)
                      refine e_op H rfl rfl (by decide) (x_move H rfl rfl) ?_
                      clear H a; intro a H
                      refine e_op H rfl rfl (by decide) (x_assign H rfl rfl) ?_
                      clear H a; intro a H
                      refine e_nil (hR.out _ _ ?_)
                      clear hR R
                      refine hK55 _ _ ?_
                      clear hK55 K55
                      refine e_region (fun R hR => ?_)
                      rw [hga] at H
                      refine e_op H rfl rfl (by decide) (x_move H rfl rfl) ?_
                      clear H a; intro a H
                      refine e_op H rfl rfl (by decide) (x_move H rfl rfl) ?_
                      clear H a; intro a H
                      refine e_op H rfl rfl (by decide) (x_indexAddr H rfl rfl rfl (i_sl (m := j) Try.underlying22 Try.sizeOf5 rfl (by omega))) ?_
                      clear H a; intro a H
                      refine e_op H rfl rfl (by decide) (x_load H rfl rfl (l_cell Try.isAgg5 (hcell))) ?_
                      clear H a; intro a H
                      refine e_op H rfl rfl (by decide) (x_binI H rfl rfl rfl (b_add (z := (((r2.prefix_[j]?.getD 0) + 1 : UInt8).toNat : Int)) (u8_inc _))) ?_
                      clear H a; intro a H
                      refine e_op H rfl rfl (by decide) (x_indexAddr H rfl rfl rfl (i_sl0 (m := j) Try.underlying22 Try.sizeOf5 rfl (by omega))) ?_
                      clear H a; intro a H
                      refine e_st H rfl rfl (x_store H rfl rfl rfl (st_cell rfl rfl Try.sizeOf5 (OJ.rw_.froz _) (by rw [Nat.zero_add] at hcell; rw [hcell]; rfl))) ?_
                      refine e_nil (hR.out _ _ ?_)
                      clear hR R
                      rw [← hga] at H O2
                      have F2 := FJ.st ga j (.int .u8 (((r2.prefix_[j]?.getD 0) + 1 : UInt8).toNat : Int)) (.inl (by rw [hga]; simp [Value.ownBlock]))
                      generalize w.setCell ⟨ga, j, none⟩ (.int .u8 (((r2.prefix_[j]?.getD 0) + 1 : UInt8).toNat : Int)) = wb_ at *
                      refine hK54 _ _ ?_
                      clear hK54 K54
                      refine e_region (fun R hR => ?_)
                      refine e_op H rfl rfl (by decide) (x_binI H rfl rfl rfl (b_add (z := ((j + 1 : Nat) : Int)) (by rw [IntKind.wrap_i64]; omega))) ?_
                      clear H a; intro a H
                      refine e_op H rfl rfl (by decide) (x_move H rfl rfl) ?_
                      clear H a; intro a H
                      refine e_nil (hR.out _ _ ?_)
                      clear hR R
                      exact ⟨r2.prefix_.length - (j + 1), by omega, j + 1, by omega, rfl, H.sub ⟨rfl, rfl, rfl, rfl, rfl, rfl, rfl, trivial⟩, O2, F2⟩
                    · skip
                      clear OJ hj
                      skip
                      refine wp_seq_k (fun K56 hK56 => ?_)
                      refine e_region (fun R hR => ?_)
                      refine e_op H rfl rfl (by decide) (x_binI H rfl rfl rfl (b_lss (b := false) (dec_f (by omega)))) ?_
                      clear H a; intro a H
                      refine e_nil (hR.out _ _ ?_)
                      clear hR R
                      refine hK56 _ _ ?_
                      clear hK56 K56
                      refine wp_seq_k (fun K57 hK57 => ?_)
                      refine c_false H rfl ?_
                      refine wp_exit ?_
                      refine t_exit ?_
                      refine t_exit ?_
                      refine b_hit ?_
                      clear hK57 K57
                      refine hK21 _ _ ?_
                      clear hK21 K21
                      refine e_region (fun R hR => ?_)
                      refine e_op H rfl rfl (by decide) (x_binI H rfl rfl rfl (b_add (z := ((k + 1 : Nat) : Int)) (by rw [IntKind.wrap_i64]; omega))) ?_
                      clear H a; intro a H
                      refine e_op H rfl rfl (by decide) (x_move H rfl rfl) ?_
                      clear H a; intro a H
                      refine e_nil (hR.out _ _ ?_)
                      clear hR R
                      exact ⟨40 - (k + 1), by omega, k + 1, vr2, s3, r2, by omega, rfl, H.sub ⟨rfl, rfl, rfl, rfl, trivial⟩, ST6.off_ FJ o6, by omega, FJ.ext E6 (fun x hx => Nat.le_trans E5.sz (own_from O6 x hx))⟩
        · skip
          have hz0 : (unm (gb s.acked) (chunksT fb.length)).length = 0 := by omega
          obtain ⟨hdn, hdt, _⟩ := We.fin (p := ⟨s, r, [], [], [], [], [], []⟩) ⟨ST.sid, ST.sfile, ST.sn.len, ST.rof, ST.sub⟩ hz0
          have hfd : (if r.done then r.data else []) = fb := by
            have h1 : r.done = true := hdn
            rw [if_pos h1]; exact hdt
          replace hdn : r.done = true := hdn
          refine wp_seq_k (fun K58 hK58 => ?_)
          refine e_region (fun R hR => ?_)
          refine e_op H rfl rfl (by decide) (x_binI H rfl rfl rfl (b_lss (b := false) (dec_f (by omega)))) ?_
          clear H a; intro a H
          refine e_nil (hR.out _ _ ?_)
          clear hR R
          refine hK58 _ _ ?_
          clear hK58 K58
          refine wp_seq_k (fun K59 hK59 => ?_)
          refine c_false H rfl ?_
          refine wp_exit ?_
          refine t_exit ?_
          refine t_exit ?_
          refine b_hit ?_
          clear hK59 K59
          refine hK17 _ _ ?_
          clear hK17 K17
          refine wp_seq_k (fun K60 hK60 => ?_)
          refine e_region (fun R hR => ?_)
          refine e_op H rfl rfl (by decide) (x_move H rfl rfl) ?_
          clear H a; intro a H
          refine e_callq H rfl rfl (by decide) rfl rfl (Try.call50 _) (file_rcv w1.heap.size gr vr r w ST.rv) ?_
          clear H a
          rintro e wf ⟨qa, qc, rfl, OQ, Ef⟩
          rw [hfd] at OQ
          replace E := E.tr Ef
          refine ⟨_, rfl, fun a H => ?_⟩
          rw [hfd, hdn] at H
          refine e_op H rfl rfl (by decide) (x_move H rfl rfl) ?_
          clear H a; intro a H
          refine e_op H rfl rfl (by decide) (x_extract H rfl rfl (v := .slice qa fb.length qc) rfl) ?_
          clear H a; intro a H
          refine e_op H rfl rfl (by decide) (x_extract H rfl rfl (v := .bool true) rfl) ?_
          clear H a; intro a H
          refine e_op H rfl rfl (by decide) (x_assign H rfl rfl) ?_
          clear H a; intro a H
          refine e_op H rfl rfl (by decide) (x_assign H rfl rfl) ?_
          clear H a; intro a H
          refine e_nil (hR.out _ _ ?_)
          clear hR R
          refine hK60 _ _ ?_
          clear hK60 K60
          refine wp_seq_k (fun K61 hK61 => ?_)
          refine e_region (fun R hR => ?_)
          refine e_op H rfl rfl (by decide) (x_move H rfl rfl) ?_
          clear H a; intro a H
          refine e_op H rfl rfl (by decide) (x_move H rfl rfl) ?_
          clear H a; intro a H
          refine e_opg H (wanted_true H rfl rfl rfl rfl) rfl (by decide) (x_move H rfl rfl) ?_
          clear H a; intro a H
          refine e_opg H (wanted_true H rfl rfl rfl rfl) rfl (by decide) (x_load H rfl rfl (ld_file (T3.ext E))) ?_
          clear H a; intro a H
          refine e_callqg H (wanted_true H rfl rfl rfl rfl) rfl (by decide) rfl rfl (Try.call98 _) (bytesG_any ad n c f t fb hfb wf (E.bs (E01.bs hb)) hz hn htt) ?_
          clear H a
          rintro e wg ⟨ha, hc, rfl, OH, Eg⟩
          replace OQ := OQ.ext_ Eg
          replace E := E.tr Eg
          refine ⟨_, rfl, fun a H => ?_⟩
          refine e_callqg H (wanted_true H rfl rfl rfl rfl) rfl (by decide) rfl rfl (Try.call45 _) (same1_any qa fb.length qc ha fb.length hc fb fb wg OQ.bs OH.bs (by omega)) ?_
          clear H a
          rintro e wh ⟨rfl, Eh⟩
          replace E := E.tr Eh
          refine ⟨_, rfl, fun a H => ?_⟩
          rw [decide_eq_true rfl] at H
          refine e_op H rfl rfl (by decide) (x_pickT H rfl rfl rfl) ?_
          clear H a; intro a H
          refine e_op H rfl rfl (by decide) (x_assign H rfl rfl) ?_
          clear H a; intro a H
          refine e_nil (hR.out _ _ ?_)
          clear hR R
          refine hK61 _ _ ?_
          clear hK61 K61
          refine wp_ret ?_
          exact ret1 H rfl rfl ⟨rfl, E01.tr E⟩
end Go.Proofs.Ytknllmcpogoeoaa
