/- A receiver: NewReceiver, front, File, Prefix, Ack, walked. -/
import Derived.Test.YtknllmcpogoeoaaT7
namespace Go.Proofs.Ytknllmcpogoeoaa
open Go.RowKit
set_option linter.unusedVariables false
set_option linter.unusedSimpArgs false
set_option maxRecDepth 100000
theorem made_u8 (n : Nat) : madeCells #[.int .u8 0] n = (u8s (List.replicate n 0)).toArray := by
  apply Array.ext
  · simp [madeCells, u8s]
  · intro i h1 h2
    simp [madeCells, u8s, Nat.mod_one]
theorem mk_u8 {w : World} {i j : Int} {n c : Nat} (hi : i = (n : Int)) (hj : j = (c : Int)) (h1 : n ≤ c) (h2 : c ≤ 140737488355328) :
    (Instr.makeSlice 22 (.int .i64 i) (.int .i64 j)).run Try.prog w = .ok (.slice (some ⟨w.heap.size, 0, none⟩) n c) (w.alloc (.cells (u8s (List.replicate c 0)).toArray 5)) := by
  subst hi hj
  obtain ⟨i0, hi, hz0, hz1, hz2⟩ := info_parts info5
  have h := run_make w 22 5 i0 (.int .u8 0) Try.underlying22 hi hz0 .i64 .i64 (n : Int) (c : Int) (by omega) (by omega) (by rw [hz2]; omega) (by omega)
  rw [h, hz1]
  simp only [Int.toNat_natCast, Nat.mul_one]
  rw [show (Value.int IntKind.u8 0).cells = #[.int .u8 0] from rfl, made_u8]
theorem Ow.fresh (w : World) (B n : Nat) (hB : B ≤ w.heap.size) (hn : n ≤ 140737488355328) : Ow (w.alloc (.cells (u8s (List.replicate n 0)).toArray 5)) B (some ⟨w.heap.size, 0, none⟩) n n (List.replicate n 0) :=
  Ow.new w _ B n _ (List.length_replicate ..) rfl hB hn
/-- a receiver in memory: its block, the value of its data -/
structure Rv (w : World) (B g : Nat) (v : Value) (r : Rcv) : Prop where
  blk : Blk w g 181 (rcvCells (r.id : Int) r.known v r.has)
  data : ∃ a c, v = .slice a r.data.length c ∧ Ow w B a r.data.length c r.data
  len : r.has.length = 1024
  idlt : r.id < 4294967296
  dlt : r.data.length ≤ 65535
  low : B ≤ g
theorem Rv.ext {w w' : World} {B g : Nat} {v : Value} {r : Rcv} (h : Rv w B g v r) (E : Ext w w') : Rv w' B g v r := by
  obtain ⟨a, c, h1, h2⟩ := h.data
  exact ⟨h.blk.ext E, ⟨a, c, h1, h2.ext_ E⟩, h.len, h.idlt, h.dlt, h.low⟩
theorem Rv.mono {w : World} {B B' g : Nat} {v : Value} {r : Rcv} (h : Rv w B g v r) (hB : B' ≤ B) : Rv w B' g v r := by
  obtain ⟨a, c, h1, h2⟩ := h.data
  exact ⟨h.blk, ⟨a, c, h1, h2.mono hB⟩, h.len, h.idlt, h.dlt, Nat.le_trans hB h.low⟩
theorem rcv_known (id : Int) (k : Bool) (v : Value) (l : List Bool) : (rcvCells id k v l)[1]? = some (.bool k) := rfl
theorem rcv_data (id : Int) (k : Bool) (v : Value) (l : List Bool) : (rcvCells id k v l)[2]? = some v := rfl
theorem rcv_id (id : Int) (k : Bool) (v : Value) (l : List Bool) : (rcvCells id k v l)[0]? = some (.int .u32 id) := rfl
theorem ld_marks {w : World} {g : Nat} {id : Int} {k : Bool} {v : Value} {l : List Bool} (h : Blk w g 181 (rcvCells id k v l)) (hl : l.length = 1024) :
    (Instr.loadAt 179 (.pointer (some ⟨g, 3, none⟩))).run Try.prog w = .ok (.agg (bools l).toArray) w :=
  l_part isAgg179 (fun w => by rw [bools_len, hl]; exact size179 w) (fun j u hu => by rw [h.cell, Nat.add_comm]; exact hu)
theorem or_pow (l : List UInt8) (q r : Nat) : bits .or .u8 (nb l q) ((2 : Int) ^ r % 256) = (((l[q]?.getD 0) ||| UInt8.ofNat (2 ^ r)).toNat : Int) := by
  have e : (2 : Int) ^ r % 256 = ((2 ^ r % 256 : Nat) : Int) := by simp
  rw [e, nb_nn, bits_or_u8 _ _ (nn_lt l q) (by omega), UInt8.toNat_or, UInt8.toNat_ofNat']
  rfl
theorem newReceiver_any (id : Nat) (w0 : World) (hid : id ≤ 4294967295) : Calls Try.prog 100 #[.int .u32 (id : Int)] w0 fun e w' =>
    ∃ g, e = .returned (.pointer (some ⟨g, 0, none⟩)) ∧ Rv w' w0.heap.size g (.slice none 0 0) ⟨id, false, [], noMarks⟩ ∧ w0.heap.size ≤ g ∧ Ext w0 w' := by
  refine calls_has (args := [.int .u32 (id : Int)]) Try.func100 rfl Try.ntmps100 (Nat.le_of_ble_eq_true rfl) (fun a H => ?_)
  simp only [argl, Nat.reduceAdd] at H
  refine wp_seq_k (fun K1 hK1 => ?_)
  refine e_region (fun R hR => ?_)
  refine e_op H rfl rfl (by decide) (x_assign H rfl rfl) ?_
  clear H a; intro a H
  refine e_nil (hR.out _ _ ?_)
  clear hR R
  refine hK1 _ _ ?_
  clear hK1 K1
  refine wp_seq_k (fun K2 hK2 => ?_)
  refine e_region (fun R hR => ?_)
  refine e_op H rfl rfl (by decide) (x_move H rfl rfl) ?_
  clear H a; intro a H
  refine e_op H rfl rfl (by decide) (x_build H rfl rfl (bld181 _ _)) ?_
  clear H a; intro a H
  refine e_op H rfl rfl (by decide) (x_box H rfl rfl bx_new) ?_
  clear H a; intro a H
  refine e_op H rfl rfl (by decide) (x_assign H rfl rfl) ?_
  clear H a; intro a H
  refine e_nil (hR.out _ _ ?_)
  clear hR R
  refine hK2 _ _ ?_
  clear hK2 K2
  refine wp_ret ?_
  refine ret1 H rfl rfl ⟨w0.heap.size, rfl, ⟨Blk.new w0 181 _, ⟨none, 0, rfl, ow_nil _ _⟩, List.length_replicate .., Nat.lt_of_le_of_lt hid (by omega), by simp, Nat.le_refl _⟩, Nat.le_refl _, (Ext.refl w0).al _⟩
theorem front_any (B g : Nat) (v : Value) (r : Rcv) (w0 : World) (R0 : Rv w0 B g v r) : Calls Try.prog 108 #[.pointer (some ⟨g, 0, none⟩)] w0 fun e w' => e = .returned (.int .i64 ((r.front_ : Nat) : Int)) ∧ w' = w0 := by
  obtain ⟨da, dc, rfl, hO⟩ := R0.data
  have hn1 := chunks_le R0.dlt
  have hdlt := R0.dlt
  have hlen := R0.len
  cases hk : r.known with
  | true =>
    refine calls_has (args := [.pointer (some ⟨g, 0, none⟩)]) Try.func108 rfl Try.ntmps108 (Nat.le_of_ble_eq_true rfl) (fun a H => ?_)
    simp only [argl, Nat.reduceAdd] at H
    refine wp_seq_k (fun K1 hK1 => ?_)
    refine e_region (fun R hR => ?_)
    refine e_op H rfl rfl (by decide) (x_assign H rfl rfl) ?_
    clear H a; intro a H
    refine e_nil (hR.out _ _ ?_)
    clear hR R
    refine hK1 _ _ ?_
    clear hK1 K1
    refine wp_seq_k (fun K2 hK2 => ?_)
    refine wp_seq_k (fun K3 hK3 => ?_)
    refine e_region (fun R hR => ?_)
    refine e_op H rfl rfl (by decide) (x_move H rfl rfl) ?_
    clear H a; intro a H
    refine e_op H rfl rfl (by decide) (x_nilCheck H rfl rfl) ?_
    clear H a; intro a H
    refine e_op H rfl rfl (by decide) (x_fieldAddr H rfl rfl (fa181_1 _ _)) ?_
    clear H a; intro a H
    refine e_op H rfl rfl (by decide) (x_load H rfl rfl (l_cell Try.isAgg4 (R0.blk.at_ (i := 1) (by rw [rcv_known, hk])))) ?_
    clear H a; intro a H
    refine e_op H rfl rfl (by decide) (x_un H rfl rfl (u_not (c := false) (rfl))) ?_
    clear H a; intro a H
    refine e_nil (hR.out _ _ ?_)
    clear hR R
    refine hK3 _ _ ?_
    clear hK3 K3
    refine c_false H rfl ?_
    refine wp_skip ?_
    refine hK2 _ _ ?_
    clear hK2 K2
    refine wp_seq_k (fun K4 hK4 => ?_)
    refine e_region (fun R hR => ?_)
    refine e_op H rfl rfl (by decide) (x_assign H rfl rfl) ?_
    clear H a; intro a H
    refine e_nil (hR.out _ _ ?_)
    clear hR R
    refine hK4 _ _ ?_
    clear hK4 K4
    refine wp_seq_k (fun K5 hK5 => ?_)
    refine wp_block ?_
    refine wp_loop_ghost (fun n a w => ∃ j, j ≤ (chunksT r.data.length) ∧ n = (chunksT r.data.length) - j ∧ (∀ k, k < j → gb r.has k = true) ∧ Has a 28 [(0, .pointer (some ⟨g, 0, none⟩)), (3, .int .i64 (j : Int))] ∧ w0 = w) ((chunksT r.data.length)) ?_ ?_
    · skip
      exact ⟨0, by omega, rfl, fun k h => by omega, H.sub ⟨rfl, rfl, trivial⟩, rfl⟩
    · skip
      clear H
      intro n a w hI
      obtain ⟨j, hj, rfl, hall, H, rfl⟩ := hI
      rcases (show (j < (chunksT r.data.length) ∧ gb r.has j = true) ∨ (j < (chunksT r.data.length) ∧ gb r.has j = false) ∨ j = (chunksT r.data.length) by cases gb r.has j <;> simp <;> omega) with ⟨hlt, hgb⟩ | ⟨hlt, hgb⟩ | hie
      · skip
        skip
        refine wp_seq_k (fun K6 hK6 => ?_)
        refine wp_seq_k (fun K7 hK7 => ?_)
        refine e_region (fun R hR => ?_)
        refine e_op H rfl rfl (by decide) (x_move H rfl rfl) ?_
        clear H a; intro a H
        refine e_op H rfl rfl (by decide) (x_move H rfl rfl) ?_
        clear H a; intro a H
        refine e_op H rfl rfl (by decide) (x_nilCheck H rfl rfl) ?_
        clear H a; intro a H
        refine e_op H rfl rfl (by decide) (x_fieldAddr H rfl rfl (fa181_2 _ _)) ?_
        clear H a; intro a H
        refine e_op H rfl rfl (by decide) (x_load H rfl rfl (l_cell Try.isAgg22 (R0.blk.at_ (i := 2) rfl))) ?_
        clear H a; intro a H
        refine e_op H rfl rfl (by decide) (x_builtin H rfl rfl (fun cs => len_sl Try.underlying22)) ?_
        clear H a; intro a H
        refine e_callp H rfl rfl (by decide) rfl rfl (Try.call109 _) (chunks_any r.data.length w0 (by omega)) ?_
        clear H a; intro a H
        refine e_op H rfl rfl (by decide) (x_binI H rfl rfl rfl (b_lss (b := true) (dec_t (by omega)))) ?_
        clear H a; intro a H
        refine e_op H rfl rfl (by decide) (x_move H rfl rfl) ?_
        clear H a; intro a H
        refine e_opg H (wanted_true H rfl rfl rfl rfl) rfl (by decide) (x_move H rfl rfl) ?_
        clear H a; intro a H
        refine e_opg H (wanted_true H rfl rfl rfl rfl) rfl (by decide) (x_move H rfl rfl) ?_
        clear H a; intro a H
        refine e_opg H (wanted_true H rfl rfl rfl rfl) rfl (by decide) (x_nilCheck H rfl rfl) ?_
        clear H a; intro a H
        refine e_opg H (wanted_true H rfl rfl rfl rfl) rfl (by decide) (x_fieldAddr H rfl rfl (fa181_3 _ _)) ?_
        clear H a; intro a H
        refine e_opg H (wanted_true H rfl rfl rfl rfl) rfl (by decide) (x_indexAddr H rfl rfl rfl (i_arr (m := j) Try.underlying179 Try.sizeOf4 rfl (by omega))) ?_
        clear H a; intro a H
        refine e_opg H (wanted_true H rfl rfl rfl rfl) rfl (by decide) (x_load H rfl rfl (l_cell Try.isAgg4 (R0.blk.at_ (i := 3 + j) (by rw [rcv_mark _ _ _ _ _ (by omega), hgb])))) ?_
        clear H a; intro a H
        refine e_op H rfl rfl (by decide) (x_pickT H rfl rfl rfl) ?_
        clear H a; intro a H
        refine e_nil (hR.out _ _ ?_)
        clear hR R
        refine hK7 _ _ ?_
        clear hK7 K7
        refine c_true H rfl ?_
        refine wp_skip ?_
        refine hK6 _ _ ?_
        clear hK6 K6
        refine wp_block ?_
        refine e_region (fun R hR => ?_)
        refine e_op H rfl rfl (by decide) (x_move H rfl rfl) ?_
        clear H a; intro a H
        refine e_op H rfl rfl (by decide) (x_binI H rfl rfl rfl (b_add (z := ((j + 1 : Nat) : Int)) (by rw [IntKind.wrap_i64]; omega))) ?_
        clear H a; intro a H
        refine e_op H rfl rfl (by decide) (x_assign H rfl rfl) ?_
        clear H a; intro a H
        refine e_nil (hR.out _ _ ?_)
        clear hR R
        have hall2 : ∀ k, k < j + 1 → gb r.has k = true := by
          intro k h
          by_cases hkj : k = j
          · rw [hkj]; exact hgb
          · exact hall k (by omega)
        exact ⟨(chunksT r.data.length) - (j + 1), by omega, j + 1, by omega, rfl, hall2, H.sub ⟨rfl, rfl, trivial⟩, rfl⟩
      · skip
        skip
        refine wp_seq_k (fun K8 hK8 => ?_)
        refine wp_seq_k (fun K9 hK9 => ?_)
        refine e_region (fun R hR => ?_)
        refine e_op H rfl rfl (by decide) (x_move H rfl rfl) ?_
        clear H a; intro a H
        refine e_op H rfl rfl (by decide) (x_move H rfl rfl) ?_
        clear H a; intro a H
        refine e_op H rfl rfl (by decide) (x_nilCheck H rfl rfl) ?_
        clear H a; intro a H
        refine e_op H rfl rfl (by decide) (x_fieldAddr H rfl rfl (fa181_2 _ _)) ?_
        clear H a; intro a H
        refine e_op H rfl rfl (by decide) (x_load H rfl rfl (l_cell Try.isAgg22 (R0.blk.at_ (i := 2) rfl))) ?_
        clear H a; intro a H
        refine e_op H rfl rfl (by decide) (x_builtin H rfl rfl (fun cs => len_sl Try.underlying22)) ?_
        clear H a; intro a H
        refine e_callp H rfl rfl (by decide) rfl rfl (Try.call109 _) (chunks_any r.data.length w0 (by omega)) ?_
        clear H a; intro a H
        refine e_op H rfl rfl (by decide) (x_binI H rfl rfl rfl (b_lss (b := true) (dec_t (by omega)))) ?_
        clear H a; intro a H
        refine e_op H rfl rfl (by decide) (x_move H rfl rfl) ?_
        clear H a; intro a H
        refine e_opg H (wanted_true H rfl rfl rfl rfl) rfl (by decide) (x_move H rfl rfl) ?_
        clear H a; intro a H
        refine e_opg H (wanted_true H rfl rfl rfl rfl) rfl (by decide) (x_move H rfl rfl) ?_
        clear H a; intro a H
        refine e_opg H (wanted_true H rfl rfl rfl rfl) rfl (by decide) (x_nilCheck H rfl rfl) ?_
        clear H a; intro a H
        refine e_opg H (wanted_true H rfl rfl rfl rfl) rfl (by decide) (x_fieldAddr H rfl rfl (fa181_3 _ _)) ?_
        clear H a; intro a H
        refine e_opg H (wanted_true H rfl rfl rfl rfl) rfl (by decide) (x_indexAddr H rfl rfl rfl (i_arr (m := j) Try.underlying179 Try.sizeOf4 rfl (by omega))) ?_
        clear H a; intro a H
        refine e_opg H (wanted_true H rfl rfl rfl rfl) rfl (by decide) (x_load H rfl rfl (l_cell Try.isAgg4 (R0.blk.at_ (i := 3 + j) (by rw [rcv_mark _ _ _ _ _ (by omega), hgb])))) ?_
        clear H a; intro a H
        refine e_op H rfl rfl (by decide) (x_pickT H rfl rfl rfl) ?_
        clear H a; intro a H
        refine e_nil (hR.out _ _ ?_)
        clear hR R
        refine hK9 _ _ ?_
        clear hK9 K9
        refine c_false H rfl ?_
        refine wp_exit ?_
        refine t_exit ?_
        refine t_exit ?_
        refine b_hit ?_
        clear hK8 K8
        refine hK5 _ _ ?_
        clear hK5 K5
        refine wp_seq_k (fun K10 hK10 => ?_)
        refine e_region (fun R hR => ?_)
        refine e_op H rfl rfl (by decide) (x_move H rfl rfl) ?_
        clear H a; intro a H
        refine e_op H rfl rfl (by decide) (x_assign H rfl rfl) ?_
        clear H a; intro a H
        refine e_nil (hR.out _ _ ?_)
        clear hR R
        refine hK10 _ _ ?_
        clear hK10 K10
        refine wp_ret ?_
        have hfr : r.front_ = j := by unfold Rcv.front_; rw [hk, if_pos rfl]; exact front_eq hj hall (.inr hgb)
        rw [hfr]
        exact ret1 H rfl rfl ⟨rfl, rfl⟩
      · skip
        skip
        refine wp_seq_k (fun K11 hK11 => ?_)
        refine wp_seq_k (fun K12 hK12 => ?_)
        refine e_region (fun R hR => ?_)
        refine e_op H rfl rfl (by decide) (x_move H rfl rfl) ?_
        clear H a; intro a H
        refine e_op H rfl rfl (by decide) (x_move H rfl rfl) ?_
        clear H a; intro a H
        refine e_op H rfl rfl (by decide) (x_nilCheck H rfl rfl) ?_
        clear H a; intro a H
        refine e_op H rfl rfl (by decide) (x_fieldAddr H rfl rfl (fa181_2 _ _)) ?_
        clear H a; intro a H
        refine e_op H rfl rfl (by decide) (x_load H rfl rfl (l_cell Try.isAgg22 (R0.blk.at_ (i := 2) rfl))) ?_
        clear H a; intro a H
        refine e_op H rfl rfl (by decide) (x_builtin H rfl rfl (fun cs => len_sl Try.underlying22)) ?_
        clear H a; intro a H
        refine e_callp H rfl rfl (by decide) rfl rfl (Try.call109 _) (chunks_any r.data.length w0 (by omega)) ?_
        clear H a; intro a H
        refine e_op H rfl rfl (by decide) (x_binI H rfl rfl rfl (b_lss (b := false) (dec_f (by omega)))) ?_
        clear H a; intro a H
        refine e_op H rfl rfl (by decide) (x_move H rfl rfl) ?_
        clear H a; intro a H
        refine e_skip H (wanted_false H rfl rfl rfl rfl) rfl (by decide) ?_
        clear H a; intro a H
        refine e_skip H (wanted_false H rfl rfl rfl rfl) rfl (by decide) ?_
        clear H a; intro a H
        refine e_skip H (wanted_false H rfl rfl rfl rfl) rfl (by decide) ?_
        clear H a; intro a H
        refine e_skip H (wanted_false H rfl rfl rfl rfl) rfl (by decide) ?_
        clear H a; intro a H
        refine e_skip H (wanted_false H rfl rfl rfl rfl) rfl (by decide) ?_
        clear H a; intro a H
        refine e_skip H (wanted_false H rfl rfl rfl rfl) rfl (by decide) ?_
        clear H a; intro a H
        refine e_op H rfl rfl (by decide) (x_pickF H rfl rfl rfl) ?_
        clear H a; intro a H
        refine e_nil (hR.out _ _ ?_)
        clear hR R
        refine hK12 _ _ ?_
        clear hK12 K12
        refine c_false H rfl ?_
        refine wp_exit ?_
        refine t_exit ?_
        refine t_exit ?_
        refine b_hit ?_
        clear hK11 K11
        refine hK5 _ _ ?_
        clear hK5 K5
        refine wp_seq_k (fun K13 hK13 => ?_)
        refine e_region (fun R hR => ?_)
        refine e_op H rfl rfl (by decide) (x_move H rfl rfl) ?_
        clear H a; intro a H
        refine e_op H rfl rfl (by decide) (x_assign H rfl rfl) ?_
        clear H a; intro a H
        refine e_nil (hR.out _ _ ?_)
        clear hR R
        refine hK13 _ _ ?_
        clear hK13 K13
        refine wp_ret ?_
        have hfr : r.front_ = j := by unfold Rcv.front_; rw [hk, if_pos rfl]; exact front_eq hj hall (.inl hie)
        rw [hfr]
        exact ret1 H rfl rfl ⟨rfl, rfl⟩
  | false =>
    refine calls_has (args := [.pointer (some ⟨g, 0, none⟩)]) Try.func108 rfl Try.ntmps108 (Nat.le_of_ble_eq_true rfl) (fun a H => ?_)
    simp only [argl, Nat.reduceAdd] at H
    refine wp_seq_k (fun K1 hK1 => ?_)
    refine e_region (fun R hR => ?_)
    refine e_op H rfl rfl (by decide) (x_assign H rfl rfl) ?_
    clear H a; intro a H
    refine e_nil (hR.out _ _ ?_)
    clear hR R
    refine hK1 _ _ ?_
    clear hK1 K1
    refine wp_seq_k (fun K2 hK2 => ?_)
    refine wp_seq_k (fun K3 hK3 => ?_)
    refine e_region (fun R hR => ?_)
    refine e_op H rfl rfl (by decide) (x_move H rfl rfl) ?_
    clear H a; intro a H
    refine e_op H rfl rfl (by decide) (x_nilCheck H rfl rfl) ?_
    clear H a; intro a H
    refine e_op H rfl rfl (by decide) (x_fieldAddr H rfl rfl (fa181_1 _ _)) ?_
    clear H a; intro a H
    refine e_op H rfl rfl (by decide) (x_load H rfl rfl (l_cell Try.isAgg4 (R0.blk.at_ (i := 1) (by rw [rcv_known, hk])))) ?_
    clear H a; intro a H
    refine e_op H rfl rfl (by decide) (x_un H rfl rfl (u_not (c := true) (rfl))) ?_
    clear H a; intro a H
    refine e_nil (hR.out _ _ ?_)
    clear hR R
    refine hK3 _ _ ?_
    clear hK3 K3
    refine c_true H rfl ?_
    refine wp_seq_k (fun K4 hK4 => ?_)
    refine e_region (fun R hR => ?_)
    refine e_op H rfl rfl (by decide) (x_assign H rfl rfl) ?_
    clear H a; intro a H
    refine e_nil (hR.out _ _ ?_)
    clear hR R
    refine hK4 _ _ ?_
    clear hK4 K4
    refine wp_ret ?_
    refine t_ret ?_
    have hfr : r.front_ = 0 := by unfold Rcv.front_; rw [hk]; rfl
    rw [hfr]
    exact ret1 H rfl rfl ⟨rfl, rfl⟩
theorem Rcv.front_le {r : Rcv} : r.front_ ≤ chunksT r.data.length := by
  unfold Rcv.front_
  split
  · exact (front_spec _ _).1
  · omega
theorem prefix_any (B g : Nat) (v : Value) (r : Rcv) (w0 : World) (R0 : Rv w0 B g v r) : Calls Try.prog 58 #[.pointer (some ⟨g, 0, none⟩)] w0 fun e w' => ∃ a c, e = .returned (.slice a r.prefix_.length c) ∧ Ow w' w0.heap.size a r.prefix_.length c r.prefix_ ∧ Ext w0 w' := by
  obtain ⟨da, dc, rfl, hO⟩ := R0.data
  have hn1 := chunks_le R0.dlt
  have hdlt := R0.dlt
  have hlen := R0.len
  have hfl := Rcv.front_le (r := r)
  have hdc := ow_le hO
  refine calls_has (args := [.pointer (some ⟨g, 0, none⟩)]) Try.func58 rfl Try.ntmps58 (Nat.le_of_ble_eq_true rfl) (fun a H => ?_)
  simp only [argl, Nat.reduceAdd] at H
  refine wp_seq_k (fun K1 hK1 => ?_)
  refine e_region (fun R hR => ?_)
  refine e_op H rfl rfl (by decide) (x_assign H rfl rfl) ?_
  clear H a; intro a H
  refine e_nil (hR.out _ _ ?_)
  clear hR R
  refine hK1 _ _ ?_
  clear hK1 K1
  refine wp_seq_k (fun K2 hK2 => ?_)
  refine wp_seq_k (fun K3 hK3 => ?_)
  refine e_region (fun R hR => ?_)
  refine e_op H rfl rfl (by decide) (x_move H rfl rfl) ?_
  clear H a; intro a H
  refine e_op H rfl rfl (by decide) (x_bin H rfl rfl rfl (by rw [eqGuard_at_pointer]; rfl) (b_pnil (c := false) Try.underlying65 rfl)) ?_
  clear H a; intro a H
  refine e_nil (hR.out _ _ ?_)
  clear hR R
  refine hK3 _ _ ?_
  clear hK3 K3
  refine c_false H rfl ?_
  refine wp_skip ?_
  refine hK2 _ _ ?_
  clear hK2 K2
  refine wp_seq_k (fun K4 hK4 => ?_)
  obtain ⟨wd, hwd⟩ : ∃ wx, wx = w0.drew := ⟨_, rfl⟩
  have Ewd : Ext w0 wd := by rw [hwd]; exact (Ext.refl _).dr
  have Rd := R0.ext Ewd
  have FSq := Ext.refl wd
  refine g_start (fun w' => Ext wd w') (by kernel_rfl) (fun R hR => ?_)
  rw [← hwd]
  refine g_take 0 H rfl (wanted_none rfl) rfl (by decide) (by kernel_rfl) (by kernel_rfl) (by kernel_rfl) FSq (fun w' hSw => (x_move H rfl rfl)) ?_
  clear H a; intro a H
  refine g_take 1 H rfl (wanted_none rfl) rfl (by decide) (by kernel_rfl) (by kernel_rfl) (by kernel_rfl) FSq (fun w' hSw => (x_nilCheck H rfl rfl)) ?_
  clear H a; intro a H
  refine g_take 2 H rfl (wanted_none rfl) rfl (by decide) (by kernel_rfl) (by kernel_rfl) (by kernel_rfl) FSq (fun w' hSw => (x_fieldAddr H rfl rfl (fa181_2 _ _))) ?_
  clear H a; intro a H
  refine g_take 3 H rfl (wanted_none rfl) rfl (by decide) (by kernel_rfl) (by kernel_rfl) (by kernel_rfl) FSq (fun w' hSw => (x_load H rfl rfl (l_cell Try.isAgg22 ((Rd.ext hSw).blk.at_ (i := 2) rfl)))) ?_
  clear H a; intro a H
  refine g_take 4 H rfl (wanted_none rfl) rfl (by decide) (by kernel_rfl) (by kernel_rfl) (by kernel_rfl) FSq (fun w' hSw => (x_move H rfl rfl)) ?_
  clear H a; intro a H
  refine g_take 7 H rfl (wanted_none rfl) rfl (by decide) (by kernel_rfl) (by kernel_rfl) (by kernel_rfl) FSq (fun w' hSw => (x_move H rfl rfl)) ?_
  clear H a; intro a H
  refine g_take 8 H rfl (wanted_none rfl) rfl (by decide) (by kernel_rfl) (by kernel_rfl) (by kernel_rfl) FSq (fun w' hSw => (x_nilCheck H rfl rfl)) ?_
  clear H a; intro a H
  refine g_take 9 H rfl (wanted_none rfl) rfl (by decide) (by kernel_rfl) (by kernel_rfl) (by kernel_rfl) FSq (fun w' hSw => (x_fieldAddr H rfl rfl (fa181_2 _ _))) ?_
  clear H a; intro a H
  refine g_take 10 H rfl (wanted_none rfl) rfl (by decide) (by kernel_rfl) (by kernel_rfl) (by kernel_rfl) FSq (fun w' hSw => (x_load H rfl rfl (l_cell Try.isAgg22 ((Rd.ext hSw).blk.at_ (i := 2) rfl)))) ?_
  clear H a; intro a H
  refine g_take 11 H rfl (wanted_none rfl) rfl (by decide) (by kernel_rfl) (by kernel_rfl) (by kernel_rfl) FSq (fun w' hSw => (x_builtin H rfl rfl (fun cs => len_sl Try.underlying22))) ?_
  clear H a; intro a H
  refine g_call 5 H rfl (by kernel_rfl) (wanted_none rfl) rfl (by decide) rfl rfl (Try.call108 _) (front_any B g _ r wd Rd) ?_
  clear H a
  rintro e we ⟨rfl, hwe⟩
  rw [hwe]
  refine ⟨_, rfl, FSq, fun a H => ?_⟩
  refine g_take 6 H rfl (wanted_none rfl) rfl (by decide) (by kernel_rfl) (by kernel_rfl) (by kernel_rfl) FSq (fun w' hSw => (x_binI H rfl rfl rfl (b_mul (z := ((r.front_ * 64 : Nat) : Int)) (by rw [IntKind.wrap_i64]; omega)))) ?_
  clear H a; intro a H
  refine g_take 12 H rfl (wanted_none rfl) rfl (by decide) (by kernel_rfl) (by kernel_rfl) (by kernel_rfl) FSq (fun w' hSw => (x_builtin H rfl rfl (fun cs => bi_min (z := ((min (r.front_ * 64) r.data.length : Nat) : Int)) (by split <;> omega)))) ?_
  clear H a; intro a H
  refine g_take 13 H rfl (wanted_none rfl) rfl (by decide) (by kernel_rfl) (by kernel_rfl) (by kernel_rfl) FSq (fun w' hSw => (x_slice H rfl rfl rfl rfl (sl_hi (hi := min (r.front_ * 64) r.data.length) Try.underlying22 Try.sizeOf5 rfl (by omega)))) ?_
  clear H a; intro a H
  refine g_call 14 H rfl (by kernel_rfl) (wanted_none rfl) rfl (by decide) rfl rfl (Try.call110 _) (clone_bs da (min (r.front_ * 64) r.data.length) dc r.prefix_ wd (by unfold Rcv.prefix_; exact bs_hi (hO.ext_ Ewd).bs _ (by omega)) (ow_cap hO) (by omega)) ?_
  clear H a
  rintro e we ⟨a1, c1, rfl, O1, E1⟩
  refine ⟨_, rfl, E1, fun a H => ?_⟩
  refine g_take 15 H rfl (wanted_none rfl) rfl (by decide) (by kernel_rfl) (by kernel_rfl) (by kernel_rfl) E1 (fun w' hSw => (x_assign H rfl rfl)) ?_
  clear H a; intro a H
  refine g_done (by kernel_rfl) (hR.out _ _ ?_)
  clear hR R
  refine hK4 _ _ ?_
  clear hK4 K4
  refine wp_ret ?_
  have hpl : min (r.front_ * 64) r.data.length = r.prefix_.length := by unfold Rcv.prefix_; rw [List.length_take]; omega
  rw [hpl] at H O1
  exact ret1 H rfl rfl ⟨a1, c1, rfl, O1.mono Ewd.sz, Ewd.tr E1⟩
theorem prefix_nil (w0 : World) : Calls Try.prog 58 #[.pointer none] w0 fun e w' => e = .returned (.slice none 0 0) ∧ w' = w0 := by
  refine calls_has (args := [.pointer none]) Try.func58 rfl Try.ntmps58 (Nat.le_of_ble_eq_true rfl) (fun a H => ?_)
  simp only [argl, Nat.reduceAdd] at H
  refine wp_seq_k (fun K1 hK1 => ?_)
  refine e_region (fun R hR => ?_)
  refine e_op H rfl rfl (by decide) (x_assign H rfl rfl) ?_
  clear H a; intro a H
  refine e_nil (hR.out _ _ ?_)
  clear hR R
  refine hK1 _ _ ?_
  clear hK1 K1
  refine wp_seq_k (fun K2 hK2 => ?_)
  refine wp_seq_k (fun K3 hK3 => ?_)
  refine e_region (fun R hR => ?_)
  refine e_op H rfl rfl (by decide) (x_move H rfl rfl) ?_
  clear H a; intro a H
  refine e_op H rfl rfl (by decide) (x_bin H rfl rfl rfl (by rw [eqGuard_at_pointer]; rfl) (b_pnil (c := true) Try.underlying65 rfl)) ?_
  clear H a; intro a H
  refine e_nil (hR.out _ _ ?_)
  clear hR R
  refine hK3 _ _ ?_
  clear hK3 K3
  refine c_true H rfl ?_
  refine wp_seq_k (fun K4 hK4 => ?_)
  refine e_region (fun R hR => ?_)
  refine e_op H rfl rfl (by decide) (x_assign H rfl rfl) ?_
  clear H a; intro a H
  refine e_nil (hR.out _ _ ?_)
  clear hR R
  refine hK4 _ _ ?_
  clear hK4 K4
  refine wp_ret ?_
  refine t_ret ?_
  exact ret1 H rfl rfl ⟨rfl, rfl⟩
theorem file_rcv (B g : Nat) (v : Value) (r : Rcv) (w0 : World) (R0 : Rv w0 B g v r) : Calls Try.prog 50 #[.pointer (some ⟨g, 0, none⟩)] w0 fun e w' =>
    ∃ a c, e = .returned (.tuple #[.slice a (if r.done then r.data else []).length c, .bool r.done]) ∧ Ow w' w0.heap.size a (if r.done then r.data else []).length c (if r.done then r.data else []) ∧ Ext w0 w' := by
  obtain ⟨da, dc, rfl, hO⟩ := R0.data
  have hn1 := chunks_le R0.dlt
  have hdlt := R0.dlt
  have hlen := R0.len
  have hdc := ow_le hO
  cases hk : r.known with
  | true =>
    by_cases hc : chunksT r.data.length ≤ r.front_
    · skip
      refine calls_has (args := [.pointer (some ⟨g, 0, none⟩)]) Try.func50 rfl Try.ntmps50 (Nat.le_of_ble_eq_true rfl) (fun a H => ?_)
      simp only [argl, Nat.reduceAdd] at H
      refine wp_seq_k (fun K1 hK1 => ?_)
      refine e_region (fun R hR => ?_)
      refine e_op H rfl rfl (by decide) (x_assign H rfl rfl) ?_
      clear H a; intro a H
      refine e_op H rfl rfl (by decide) (x_assign H rfl rfl) ?_
      clear H a; intro a H
      refine e_nil (hR.out _ _ ?_)
      clear hR R
      refine hK1 _ _ ?_
      clear hK1 K1
      refine wp_seq_k (fun K2 hK2 => ?_)
      refine wp_seq_k (fun K3 hK3 => ?_)
      obtain ⟨wd, hwd⟩ : ∃ wx, wx = w0.drew := ⟨_, rfl⟩
      have Ewd : Ext w0 wd := by rw [hwd]; exact (Ext.refl _).dr
      have Rd := R0.ext Ewd
      have FSq := Ext.refl wd
      refine g_start (fun w' => Ext wd w') (by kernel_rfl) (fun R hR => ?_)
      rw [← hwd]
      refine g_take 0 H rfl (wanted_none rfl) rfl (by decide) (by kernel_rfl) (by kernel_rfl) (by kernel_rfl) FSq (fun w' hSw => (x_move H rfl rfl)) ?_
      clear H a; intro a H
      refine g_take 1 H rfl (wanted_none rfl) rfl (by decide) (by kernel_rfl) (by kernel_rfl) (by kernel_rfl) FSq (fun w' hSw => (x_bin H rfl rfl rfl (by rw [eqGuard_at_pointer]; rfl) (b_pnil (c := false) Try.underlying65 rfl))) ?_
      clear H a; intro a H
      refine g_take 2 H rfl (wanted_none rfl) rfl (by decide) (by kernel_rfl) (by kernel_rfl) (by kernel_rfl) FSq (fun w' hSw => (x_move H rfl rfl)) ?_
      clear H a; intro a H
      refine g_take 3 H rfl (wanted_true H rfl rfl rfl rfl) rfl (by decide) (by kernel_rfl) (by kernel_rfl) (by kernel_rfl) FSq (fun w' hSw => (x_move H rfl rfl)) ?_
      clear H a; intro a H
      refine g_take 4 H rfl (wanted_true H rfl rfl rfl rfl) rfl (by decide) (by kernel_rfl) (by kernel_rfl) (by kernel_rfl) FSq (fun w' hSw => (x_nilCheck H rfl rfl)) ?_
      clear H a; intro a H
      refine g_take 5 H rfl (wanted_true H rfl rfl rfl rfl) rfl (by decide) (by kernel_rfl) (by kernel_rfl) (by kernel_rfl) FSq (fun w' hSw => (x_fieldAddr H rfl rfl (fa181_1 _ _))) ?_
      clear H a; intro a H
      refine g_take 6 H rfl (wanted_true H rfl rfl rfl rfl) rfl (by decide) (by kernel_rfl) (by kernel_rfl) (by kernel_rfl) FSq (fun w' hSw => (x_load H rfl rfl (l_cell Try.isAgg4 ((Rd.ext hSw).blk.at_ (i := 1) (by rw [rcv_known, hk]))))) ?_
      clear H a; intro a H
      refine g_take 7 H rfl (wanted_true H rfl rfl rfl rfl) rfl (by decide) (by kernel_rfl) (by kernel_rfl) (by kernel_rfl) FSq (fun w' hSw => (x_un H rfl rfl (u_not (c := false) (rfl)))) ?_
      clear H a; intro a H
      refine g_take 8 H rfl (wanted_none rfl) rfl (by decide) (by kernel_rfl) (by kernel_rfl) (by kernel_rfl) FSq (fun w' hSw => (x_pickF H rfl rfl rfl)) ?_
      clear H a; intro a H
      refine g_take 9 H rfl (wanted_none rfl) rfl (by decide) (by kernel_rfl) (by kernel_rfl) (by kernel_rfl) FSq (fun w' hSw => (x_move H rfl rfl)) ?_
      clear H a; intro a H
      refine g_take 10 H rfl (wanted_true H rfl rfl rfl rfl) rfl (by decide) (by kernel_rfl) (by kernel_rfl) (by kernel_rfl) FSq (fun w' hSw => (x_move H rfl rfl)) ?_
      clear H a; intro a H
      refine g_take 12 H rfl (wanted_true H rfl rfl rfl rfl) rfl (by decide) (by kernel_rfl) (by kernel_rfl) (by kernel_rfl) FSq (fun w' hSw => (x_move H rfl rfl)) ?_
      clear H a; intro a H
      refine g_take 13 H rfl (wanted_true H rfl rfl rfl rfl) rfl (by decide) (by kernel_rfl) (by kernel_rfl) (by kernel_rfl) FSq (fun w' hSw => (x_nilCheck H rfl rfl)) ?_
      clear H a; intro a H
      refine g_take 14 H rfl (wanted_true H rfl rfl rfl rfl) rfl (by decide) (by kernel_rfl) (by kernel_rfl) (by kernel_rfl) FSq (fun w' hSw => (x_fieldAddr H rfl rfl (fa181_2 _ _))) ?_
      clear H a; intro a H
      refine g_take 15 H rfl (wanted_true H rfl rfl rfl rfl) rfl (by decide) (by kernel_rfl) (by kernel_rfl) (by kernel_rfl) FSq (fun w' hSw => (x_load H rfl rfl (l_cell Try.isAgg22 ((Rd.ext hSw).blk.at_ (i := 2) rfl)))) ?_
      clear H a; intro a H
      refine g_take 16 H rfl (wanted_true H rfl rfl rfl rfl) rfl (by decide) (by kernel_rfl) (by kernel_rfl) (by kernel_rfl) FSq (fun w' hSw => (x_builtin H rfl rfl (fun cs => len_sl Try.underlying22))) ?_
      clear H a; intro a H
      refine g_call 11 H rfl (by kernel_rfl) (wanted_true H rfl rfl rfl rfl) rfl (by decide) rfl rfl (Try.call108 _) (front_any B g _ r wd Rd) ?_
      clear H a
      rintro e we ⟨rfl, hwe⟩
      rw [hwe]
      refine ⟨_, rfl, FSq, fun a H => ?_⟩
      refine g_call 17 H rfl (by kernel_rfl) (wanted_true H rfl rfl rfl rfl) rfl (by decide) rfl rfl (Try.call109 _) (chunks_any r.data.length wd (by omega)) ?_
      clear H a
      rintro e we ⟨rfl, hwe⟩
      rw [hwe]
      refine ⟨_, rfl, FSq, fun a H => ?_⟩
      refine g_take 18 H rfl (wanted_true H rfl rfl rfl rfl) rfl (by decide) (by kernel_rfl) (by kernel_rfl) (by kernel_rfl) FSq (fun w' hSw => (x_binI H rfl rfl rfl (b_lss (b := false) (dec_f (by omega))))) ?_
      clear H a; intro a H
      refine g_take 19 H rfl (wanted_none rfl) rfl (by decide) (by kernel_rfl) (by kernel_rfl) (by kernel_rfl) FSq (fun w' hSw => (x_pickF H rfl rfl rfl)) ?_
      clear H a; intro a H
      refine g_done (by kernel_rfl) (hR.out _ _ ?_)
      clear hR R
      refine hK3 _ _ ?_
      clear hK3 K3
      refine c_false H rfl ?_
      refine wp_skip ?_
      refine hK2 _ _ ?_
      clear hK2 K2
      refine wp_seq_k (fun K4 hK4 => ?_)
      refine e_region (fun R hR => ?_)
      refine e_op H rfl rfl (by decide) (x_move H rfl rfl) ?_
      clear H a; intro a H
      refine e_op H rfl rfl (by decide) (x_nilCheck H rfl rfl) ?_
      clear H a; intro a H
      refine e_op H rfl rfl (by decide) (x_fieldAddr H rfl rfl (fa181_2 _ _)) ?_
      clear H a; intro a H
      refine e_op H rfl rfl (by decide) (x_load H rfl rfl (l_cell Try.isAgg22 (Rd.blk.at_ (i := 2) rfl))) ?_
      clear H a; intro a H
      refine e_callq H rfl rfl (by decide) rfl rfl (Try.call110 _) (clone_bs da r.data.length dc r.data wd (hO.ext_ Ewd).bs (ow_cap hO) (by omega)) ?_
      clear H a
      rintro e w1 ⟨a1, c1, rfl, O1, E1⟩
      refine ⟨_, rfl, fun a H => ?_⟩
      refine e_op H rfl rfl (by decide) (x_assign H rfl rfl) ?_
      clear H a; intro a H
      refine e_op H rfl rfl (by decide) (x_assign H rfl rfl) ?_
      clear H a; intro a H
      refine e_nil (hR.out _ _ ?_)
      clear hR R
      refine hK4 _ _ ?_
      clear hK4 K4
      refine wp_ret ?_
      have hd : r.done = true := by unfold Rcv.done; rw [hk]; simp; omega
      rw [hd]
      exact ret2 H rfl rfl rfl ⟨a1, c1, rfl, O1.mono Ewd.sz, Ewd.tr E1⟩
    · skip
      refine calls_has (args := [.pointer (some ⟨g, 0, none⟩)]) Try.func50 rfl Try.ntmps50 (Nat.le_of_ble_eq_true rfl) (fun a H => ?_)
      simp only [argl, Nat.reduceAdd] at H
      refine wp_seq_k (fun K1 hK1 => ?_)
      refine e_region (fun R hR => ?_)
      refine e_op H rfl rfl (by decide) (x_assign H rfl rfl) ?_
      clear H a; intro a H
      refine e_op H rfl rfl (by decide) (x_assign H rfl rfl) ?_
      clear H a; intro a H
      refine e_nil (hR.out _ _ ?_)
      clear hR R
      refine hK1 _ _ ?_
      clear hK1 K1
      refine wp_seq_k (fun K2 hK2 => ?_)
      refine wp_seq_k (fun K3 hK3 => ?_)
      obtain ⟨wd, hwd⟩ : ∃ wx, wx = w0.drew := ⟨_, rfl⟩
      have Ewd : Ext w0 wd := by rw [hwd]; exact (Ext.refl _).dr
      have Rd := R0.ext Ewd
      have FSq := Ext.refl wd
      refine g_start (fun w' => Ext wd w') (by kernel_rfl) (fun R hR => ?_)
      rw [← hwd]
      refine g_take 0 H rfl (wanted_none rfl) rfl (by decide) (by kernel_rfl) (by kernel_rfl) (by kernel_rfl) FSq (fun w' hSw => (x_move H rfl rfl)) ?_
      clear H a; intro a H
      refine g_take 1 H rfl (wanted_none rfl) rfl (by decide) (by kernel_rfl) (by kernel_rfl) (by kernel_rfl) FSq (fun w' hSw => (x_bin H rfl rfl rfl (by rw [eqGuard_at_pointer]; rfl) (b_pnil (c := false) Try.underlying65 rfl))) ?_
      clear H a; intro a H
      refine g_take 2 H rfl (wanted_none rfl) rfl (by decide) (by kernel_rfl) (by kernel_rfl) (by kernel_rfl) FSq (fun w' hSw => (x_move H rfl rfl)) ?_
      clear H a; intro a H
      refine g_take 3 H rfl (wanted_true H rfl rfl rfl rfl) rfl (by decide) (by kernel_rfl) (by kernel_rfl) (by kernel_rfl) FSq (fun w' hSw => (x_move H rfl rfl)) ?_
      clear H a; intro a H
      refine g_take 4 H rfl (wanted_true H rfl rfl rfl rfl) rfl (by decide) (by kernel_rfl) (by kernel_rfl) (by kernel_rfl) FSq (fun w' hSw => (x_nilCheck H rfl rfl)) ?_
      clear H a; intro a H
      refine g_take 5 H rfl (wanted_true H rfl rfl rfl rfl) rfl (by decide) (by kernel_rfl) (by kernel_rfl) (by kernel_rfl) FSq (fun w' hSw => (x_fieldAddr H rfl rfl (fa181_1 _ _))) ?_
      clear H a; intro a H
      refine g_take 6 H rfl (wanted_true H rfl rfl rfl rfl) rfl (by decide) (by kernel_rfl) (by kernel_rfl) (by kernel_rfl) FSq (fun w' hSw => (x_load H rfl rfl (l_cell Try.isAgg4 ((Rd.ext hSw).blk.at_ (i := 1) (by rw [rcv_known, hk]))))) ?_
      clear H a; intro a H
      refine g_take 7 H rfl (wanted_true H rfl rfl rfl rfl) rfl (by decide) (by kernel_rfl) (by kernel_rfl) (by kernel_rfl) FSq (fun w' hSw => (x_un H rfl rfl (u_not (c := false) (rfl)))) ?_
      clear H a; intro a H
      refine g_take 8 H rfl (wanted_none rfl) rfl (by decide) (by kernel_rfl) (by kernel_rfl) (by kernel_rfl) FSq (fun w' hSw => (x_pickF H rfl rfl rfl)) ?_
      clear H a; intro a H
      refine g_take 9 H rfl (wanted_none rfl) rfl (by decide) (by kernel_rfl) (by kernel_rfl) (by kernel_rfl) FSq (fun w' hSw => (x_move H rfl rfl)) ?_
      clear H a; intro a H
      refine g_take 10 H rfl (wanted_true H rfl rfl rfl rfl) rfl (by decide) (by kernel_rfl) (by kernel_rfl) (by kernel_rfl) FSq (fun w' hSw => (x_move H rfl rfl)) ?_
      clear H a; intro a H
      refine g_take 12 H rfl (wanted_true H rfl rfl rfl rfl) rfl (by decide) (by kernel_rfl) (by kernel_rfl) (by kernel_rfl) FSq (fun w' hSw => (x_move H rfl rfl)) ?_
      clear H a; intro a H
      refine g_take 13 H rfl (wanted_true H rfl rfl rfl rfl) rfl (by decide) (by kernel_rfl) (by kernel_rfl) (by kernel_rfl) FSq (fun w' hSw => (x_nilCheck H rfl rfl)) ?_
      clear H a; intro a H
      refine g_take 14 H rfl (wanted_true H rfl rfl rfl rfl) rfl (by decide) (by kernel_rfl) (by kernel_rfl) (by kernel_rfl) FSq (fun w' hSw => (x_fieldAddr H rfl rfl (fa181_2 _ _))) ?_
      clear H a; intro a H
      refine g_take 15 H rfl (wanted_true H rfl rfl rfl rfl) rfl (by decide) (by kernel_rfl) (by kernel_rfl) (by kernel_rfl) FSq (fun w' hSw => (x_load H rfl rfl (l_cell Try.isAgg22 ((Rd.ext hSw).blk.at_ (i := 2) rfl)))) ?_
      clear H a; intro a H
      refine g_take 16 H rfl (wanted_true H rfl rfl rfl rfl) rfl (by decide) (by kernel_rfl) (by kernel_rfl) (by kernel_rfl) FSq (fun w' hSw => (x_builtin H rfl rfl (fun cs => len_sl Try.underlying22))) ?_
      clear H a; intro a H
      refine g_call 11 H rfl (by kernel_rfl) (wanted_true H rfl rfl rfl rfl) rfl (by decide) rfl rfl (Try.call108 _) (front_any B g _ r wd Rd) ?_
      clear H a
      rintro e we ⟨rfl, hwe⟩
      rw [hwe]
      refine ⟨_, rfl, FSq, fun a H => ?_⟩
      refine g_call 17 H rfl (by kernel_rfl) (wanted_true H rfl rfl rfl rfl) rfl (by decide) rfl rfl (Try.call109 _) (chunks_any r.data.length wd (by omega)) ?_
      clear H a
      rintro e we ⟨rfl, hwe⟩
      rw [hwe]
      refine ⟨_, rfl, FSq, fun a H => ?_⟩
      refine g_take 18 H rfl (wanted_true H rfl rfl rfl rfl) rfl (by decide) (by kernel_rfl) (by kernel_rfl) (by kernel_rfl) FSq (fun w' hSw => (x_binI H rfl rfl rfl (b_lss (b := true) (dec_t (by omega))))) ?_
      clear H a; intro a H
      refine g_take 19 H rfl (wanted_none rfl) rfl (by decide) (by kernel_rfl) (by kernel_rfl) (by kernel_rfl) FSq (fun w' hSw => (x_pickF H rfl rfl rfl)) ?_
      clear H a; intro a H
      refine g_done (by kernel_rfl) (hR.out _ _ ?_)
      clear hR R
      refine hK3 _ _ ?_
      clear hK3 K3
      refine c_true H rfl ?_
      refine wp_seq_k (fun K4 hK4 => ?_)
      refine e_region (fun R hR => ?_)
      refine e_op H rfl rfl (by decide) (x_assign H rfl rfl) ?_
      clear H a; intro a H
      refine e_op H rfl rfl (by decide) (x_assign H rfl rfl) ?_
      clear H a; intro a H
      refine e_nil (hR.out _ _ ?_)
      clear hR R
      refine hK4 _ _ ?_
      clear hK4 K4
      refine wp_ret ?_
      refine t_ret ?_
      have hd : r.done = false := by unfold Rcv.done; rw [hk]; simp; omega
      rw [hd]
      exact ret2 H rfl rfl rfl ⟨none, 0, rfl, ow_nil _ _, Ewd⟩
  | false =>
    refine calls_has (args := [.pointer (some ⟨g, 0, none⟩)]) Try.func50 rfl Try.ntmps50 (Nat.le_of_ble_eq_true rfl) (fun a H => ?_)
    simp only [argl, Nat.reduceAdd] at H
    refine wp_seq_k (fun K1 hK1 => ?_)
    refine e_region (fun R hR => ?_)
    refine e_op H rfl rfl (by decide) (x_assign H rfl rfl) ?_
    clear H a; intro a H
    refine e_op H rfl rfl (by decide) (x_assign H rfl rfl) ?_
    clear H a; intro a H
    refine e_nil (hR.out _ _ ?_)
    clear hR R
    refine hK1 _ _ ?_
    clear hK1 K1
    refine wp_seq_k (fun K2 hK2 => ?_)
    refine wp_seq_k (fun K3 hK3 => ?_)
    obtain ⟨wd, hwd⟩ : ∃ wx, wx = w0.drew := ⟨_, rfl⟩
    have Ewd : Ext w0 wd := by rw [hwd]; exact (Ext.refl _).dr
    have Rd := R0.ext Ewd
    have FSq := Ext.refl wd
    refine g_start (fun w' => Ext wd w') (by kernel_rfl) (fun R hR => ?_)
    rw [← hwd]
    refine g_take 0 H rfl (wanted_none rfl) rfl (by decide) (by kernel_rfl) (by kernel_rfl) (by kernel_rfl) FSq (fun w' hSw => (x_move H rfl rfl)) ?_
    clear H a; intro a H
    refine g_take 1 H rfl (wanted_none rfl) rfl (by decide) (by kernel_rfl) (by kernel_rfl) (by kernel_rfl) FSq (fun w' hSw => (x_bin H rfl rfl rfl (by rw [eqGuard_at_pointer]; rfl) (b_pnil (c := false) Try.underlying65 rfl))) ?_
    clear H a; intro a H
    refine g_take 2 H rfl (wanted_none rfl) rfl (by decide) (by kernel_rfl) (by kernel_rfl) (by kernel_rfl) FSq (fun w' hSw => (x_move H rfl rfl)) ?_
    clear H a; intro a H
    refine g_take 3 H rfl (wanted_true H rfl rfl rfl rfl) rfl (by decide) (by kernel_rfl) (by kernel_rfl) (by kernel_rfl) FSq (fun w' hSw => (x_move H rfl rfl)) ?_
    clear H a; intro a H
    refine g_take 4 H rfl (wanted_true H rfl rfl rfl rfl) rfl (by decide) (by kernel_rfl) (by kernel_rfl) (by kernel_rfl) FSq (fun w' hSw => (x_nilCheck H rfl rfl)) ?_
    clear H a; intro a H
    refine g_take 5 H rfl (wanted_true H rfl rfl rfl rfl) rfl (by decide) (by kernel_rfl) (by kernel_rfl) (by kernel_rfl) FSq (fun w' hSw => (x_fieldAddr H rfl rfl (fa181_1 _ _))) ?_
    clear H a; intro a H
    refine g_take 6 H rfl (wanted_true H rfl rfl rfl rfl) rfl (by decide) (by kernel_rfl) (by kernel_rfl) (by kernel_rfl) FSq (fun w' hSw => (x_load H rfl rfl (l_cell Try.isAgg4 ((Rd.ext hSw).blk.at_ (i := 1) (by rw [rcv_known, hk]))))) ?_
    clear H a; intro a H
    refine g_take 7 H rfl (wanted_true H rfl rfl rfl rfl) rfl (by decide) (by kernel_rfl) (by kernel_rfl) (by kernel_rfl) FSq (fun w' hSw => (x_un H rfl rfl (u_not (c := true) (rfl)))) ?_
    clear H a; intro a H
    refine g_take 8 H rfl (wanted_none rfl) rfl (by decide) (by kernel_rfl) (by kernel_rfl) (by kernel_rfl) FSq (fun w' hSw => (x_pickF H rfl rfl rfl)) ?_
    clear H a; intro a H
    refine g_take 9 H rfl (wanted_none rfl) rfl (by decide) (by kernel_rfl) (by kernel_rfl) (by kernel_rfl) FSq (fun w' hSw => (x_move H rfl rfl)) ?_
    clear H a; intro a H
    refine g_skip 10 H rfl (wanted_false H rfl rfl rfl rfl) rfl (by decide) (by kernel_rfl) (by kernel_rfl) (by kernel_rfl) FSq ?_
    clear H a; intro a H
    refine g_skip 11 H rfl (wanted_false H rfl rfl rfl rfl) rfl (by decide) (by kernel_rfl) (by kernel_rfl) (by kernel_rfl) FSq ?_
    clear H a; intro a H
    refine g_skip 12 H rfl (wanted_false H rfl rfl rfl rfl) rfl (by decide) (by kernel_rfl) (by kernel_rfl) (by kernel_rfl) FSq ?_
    clear H a; intro a H
    refine g_skip 13 H rfl (wanted_false H rfl rfl rfl rfl) rfl (by decide) (by kernel_rfl) (by kernel_rfl) (by kernel_rfl) FSq ?_
    clear H a; intro a H
    refine g_skip 14 H rfl (wanted_false H rfl rfl rfl rfl) rfl (by decide) (by kernel_rfl) (by kernel_rfl) (by kernel_rfl) FSq ?_
    clear H a; intro a H
    refine g_skip 15 H rfl (wanted_false H rfl rfl rfl rfl) rfl (by decide) (by kernel_rfl) (by kernel_rfl) (by kernel_rfl) FSq ?_
    clear H a; intro a H
    refine g_skip 16 H rfl (wanted_false H rfl rfl rfl rfl) rfl (by decide) (by kernel_rfl) (by kernel_rfl) (by kernel_rfl) FSq ?_
    clear H a; intro a H
    refine g_skip 17 H rfl (wanted_false H rfl rfl rfl rfl) rfl (by decide) (by kernel_rfl) (by kernel_rfl) (by kernel_rfl) FSq ?_
    clear H a; intro a H
    refine g_skip 18 H rfl (wanted_false H rfl rfl rfl rfl) rfl (by decide) (by kernel_rfl) (by kernel_rfl) (by kernel_rfl) FSq ?_
    clear H a; intro a H
    refine g_take 19 H rfl (wanted_none rfl) rfl (by decide) (by kernel_rfl) (by kernel_rfl) (by kernel_rfl) FSq (fun w' hSw => (x_pickT H rfl rfl rfl)) ?_
    clear H a; intro a H
    refine g_done (by kernel_rfl) (hR.out _ _ ?_)
    clear hR R
    refine hK3 _ _ ?_
    clear hK3 K3
    refine c_true H rfl ?_
    refine wp_seq_k (fun K4 hK4 => ?_)
    refine e_region (fun R hR => ?_)
    refine e_op H rfl rfl (by decide) (x_assign H rfl rfl) ?_
    clear H a; intro a H
    refine e_op H rfl rfl (by decide) (x_assign H rfl rfl) ?_
    clear H a; intro a H
    refine e_nil (hR.out _ _ ?_)
    clear hR R
    refine hK4 _ _ ?_
    clear hK4 K4
    refine wp_ret ?_
    refine t_ret ?_
    have hd : r.done = false := by unfold Rcv.done; rw [hk]; simp
    rw [hd]
    exact ret2 H rfl rfl rfl ⟨none, 0, rfl, ow_nil _ _, Ewd⟩
theorem file_nil (w0 : World) : Calls Try.prog 50 #[.pointer none] w0 fun e w' => e = .returned (.tuple #[.slice none 0 0, .bool false]) ∧ Ext w0 w' := by
  refine calls_has (args := [.pointer none]) Try.func50 rfl Try.ntmps50 (Nat.le_of_ble_eq_true rfl) (fun a H => ?_)
  simp only [argl, Nat.reduceAdd] at H
  refine wp_seq_k (fun K1 hK1 => ?_)
  refine e_region (fun R hR => ?_)
  refine e_op H rfl rfl (by decide) (x_assign H rfl rfl) ?_
  clear H a; intro a H
  refine e_op H rfl rfl (by decide) (x_assign H rfl rfl) ?_
  clear H a; intro a H
  refine e_nil (hR.out _ _ ?_)
  clear hR R
  refine hK1 _ _ ?_
  clear hK1 K1
  refine wp_seq_k (fun K2 hK2 => ?_)
  refine wp_seq_k (fun K3 hK3 => ?_)
  obtain ⟨wd, hwd⟩ : ∃ wx, wx = w0.drew := ⟨_, rfl⟩
  have Ewd : Ext w0 wd := by rw [hwd]; exact (Ext.refl _).dr
  have FSq := Ext.refl wd
  refine g_start (fun w' => Ext wd w') (by kernel_rfl) (fun R hR => ?_)
  rw [← hwd]
  refine g_take 0 H rfl (wanted_none rfl) rfl (by decide) (by kernel_rfl) (by kernel_rfl) (by kernel_rfl) FSq (fun w' hSw => (x_move H rfl rfl)) ?_
  clear H a; intro a H
  refine g_take 1 H rfl (wanted_none rfl) rfl (by decide) (by kernel_rfl) (by kernel_rfl) (by kernel_rfl) FSq (fun w' hSw => (x_bin H rfl rfl rfl (by rw [eqGuard_at_pointer]; rfl) (b_pnil (c := true) Try.underlying65 rfl))) ?_
  clear H a; intro a H
  refine g_take 2 H rfl (wanted_none rfl) rfl (by decide) (by kernel_rfl) (by kernel_rfl) (by kernel_rfl) FSq (fun w' hSw => (x_move H rfl rfl)) ?_
  clear H a; intro a H
  refine g_skip 3 H rfl (wanted_false H rfl rfl rfl rfl) rfl (by decide) (by kernel_rfl) (by kernel_rfl) (by kernel_rfl) FSq ?_
  clear H a; intro a H
  refine g_skip 4 H rfl (wanted_false H rfl rfl rfl rfl) rfl (by decide) (by kernel_rfl) (by kernel_rfl) (by kernel_rfl) FSq ?_
  clear H a; intro a H
  refine g_skip 5 H rfl (wanted_false H rfl rfl rfl rfl) rfl (by decide) (by kernel_rfl) (by kernel_rfl) (by kernel_rfl) FSq ?_
  clear H a; intro a H
  refine g_skip 6 H rfl (wanted_false H rfl rfl rfl rfl) rfl (by decide) (by kernel_rfl) (by kernel_rfl) (by kernel_rfl) FSq ?_
  clear H a; intro a H
  refine g_skip 7 H rfl (wanted_false H rfl rfl rfl rfl) rfl (by decide) (by kernel_rfl) (by kernel_rfl) (by kernel_rfl) FSq ?_
  clear H a; intro a H
  refine g_take 8 H rfl (wanted_none rfl) rfl (by decide) (by kernel_rfl) (by kernel_rfl) (by kernel_rfl) FSq (fun w' hSw => (x_pickT H rfl rfl rfl)) ?_
  clear H a; intro a H
  refine g_take 9 H rfl (wanted_none rfl) rfl (by decide) (by kernel_rfl) (by kernel_rfl) (by kernel_rfl) FSq (fun w' hSw => (x_move H rfl rfl)) ?_
  clear H a; intro a H
  refine g_skip 10 H rfl (wanted_false H rfl rfl rfl rfl) rfl (by decide) (by kernel_rfl) (by kernel_rfl) (by kernel_rfl) FSq ?_
  clear H a; intro a H
  refine g_skip 11 H rfl (wanted_false H rfl rfl rfl rfl) rfl (by decide) (by kernel_rfl) (by kernel_rfl) (by kernel_rfl) FSq ?_
  clear H a; intro a H
  refine g_skip 12 H rfl (wanted_false H rfl rfl rfl rfl) rfl (by decide) (by kernel_rfl) (by kernel_rfl) (by kernel_rfl) FSq ?_
  clear H a; intro a H
  refine g_skip 13 H rfl (wanted_false H rfl rfl rfl rfl) rfl (by decide) (by kernel_rfl) (by kernel_rfl) (by kernel_rfl) FSq ?_
  clear H a; intro a H
  refine g_skip 14 H rfl (wanted_false H rfl rfl rfl rfl) rfl (by decide) (by kernel_rfl) (by kernel_rfl) (by kernel_rfl) FSq ?_
  clear H a; intro a H
  refine g_skip 15 H rfl (wanted_false H rfl rfl rfl rfl) rfl (by decide) (by kernel_rfl) (by kernel_rfl) (by kernel_rfl) FSq ?_
  clear H a; intro a H
  refine g_skip 16 H rfl (wanted_false H rfl rfl rfl rfl) rfl (by decide) (by kernel_rfl) (by kernel_rfl) (by kernel_rfl) FSq ?_
  clear H a; intro a H
  refine g_skip 17 H rfl (wanted_false H rfl rfl rfl rfl) rfl (by decide) (by kernel_rfl) (by kernel_rfl) (by kernel_rfl) FSq ?_
  clear H a; intro a H
  refine g_skip 18 H rfl (wanted_false H rfl rfl rfl rfl) rfl (by decide) (by kernel_rfl) (by kernel_rfl) (by kernel_rfl) FSq ?_
  clear H a; intro a H
  refine g_take 19 H rfl (wanted_none rfl) rfl (by decide) (by kernel_rfl) (by kernel_rfl) (by kernel_rfl) FSq (fun w' hSw => (x_pickT H rfl rfl rfl)) ?_
  clear H a; intro a H
  refine g_done (by kernel_rfl) (hR.out _ _ ?_)
  clear hR R
  refine hK3 _ _ ?_
  clear hK3 K3
  refine c_true H rfl ?_
  refine wp_seq_k (fun K4 hK4 => ?_)
  refine e_region (fun R hR => ?_)
  refine e_op H rfl rfl (by decide) (x_assign H rfl rfl) ?_
  clear H a; intro a H
  refine e_op H rfl rfl (by decide) (x_assign H rfl rfl) ?_
  clear H a; intro a H
  refine e_nil (hR.out _ _ ?_)
  clear hR R
  refine hK4 _ _ ?_
  clear hK4 K4
  refine wp_ret ?_
  refine t_ret ?_
  exact ret2 H rfl rfl rfl ⟨rfl, Ewd⟩
theorem ack_any (B g : Nat) (v : Value) (r : Rcv) (w0 : World) (R0 : Rv w0 B g v r) : Calls Try.prog 57 #[.pointer (some ⟨g, 0, none⟩)] w0 fun e w' =>
    ∃ a c, e = .returned (.slice a (ackP r.id r.has).length c) ∧ Ow w' w0.heap.size a (ackP r.id r.has).length c (ackP r.id r.has) ∧ Ext w0 w' := by
  obtain ⟨da, dc, rfl, hO⟩ := R0.data
  have hn1 := chunks_le R0.dlt
  have hdlt := R0.dlt
  have hlen := R0.len
  have hidl := R0.idlt
  obtain ⟨hal, hau⟩ := ackB_len r.has
  have hp1 := (putU_len r.id (by omega)).2
  have hp2 : (putB (ackB r.has)).length ≤ 140 := by
    have := (putU_len (ackB r.has).length (by omega)).2
    unfold putB
    rw [List.length_append]; omega
  refine calls_has (args := [.pointer (some ⟨g, 0, none⟩)]) Try.func57 rfl Try.ntmps57 (Nat.le_of_ble_eq_true rfl) (fun a H => ?_)
  simp only [argl, Nat.reduceAdd] at H
  refine wp_seq_k (fun K1 hK1 => ?_)
  refine e_region (fun R hR => ?_)
  refine e_op H rfl rfl (by decide) (x_assign H rfl rfl) ?_
  clear H a; intro a H
  refine e_nil (hR.out _ _ ?_)
  clear hR R
  refine hK1 _ _ ?_
  clear hK1 K1
  refine wp_seq_k (fun K2 hK2 => ?_)
  refine wp_seq_k (fun K3 hK3 => ?_)
  refine e_region (fun R hR => ?_)
  refine e_op H rfl rfl (by decide) (x_move H rfl rfl) ?_
  clear H a; intro a H
  refine e_op H rfl rfl (by decide) (x_bin H rfl rfl rfl (by rw [eqGuard_at_pointer]; rfl) (b_pnil (c := false) Try.underlying65 rfl)) ?_
  clear H a; intro a H
  refine e_nil (hR.out _ _ ?_)
  clear hR R
  refine hK3 _ _ ?_
  clear hK3 K3
  refine c_false H rfl ?_
  refine wp_skip ?_
  refine hK2 _ _ ?_
  clear hK2 K2
  refine wp_seq_k (fun K4 hK4 => ?_)
  refine e_region (fun R hR => ?_)
  refine e_op H rfl rfl (by decide) (x_makeSlice H rfl rfl rfl (mk_u8 (n := 128) (c := 128) rfl rfl (by omega) (by omega))) ?_
  clear H a; intro a H
  refine e_op H rfl rfl (by decide) (x_assign H rfl rfl) ?_
  clear H a; intro a H
  refine e_nil (hR.out _ _ ?_)
  clear hR R
  have O0 := Ow.fresh w0 w0.heap.size 128 (Nat.le_refl _) (by omega)
  have E0 := (Ext.refl w0).al (.cells (u8s (List.replicate 128 0)).toArray 5)
  obtain ⟨g1, hg1e⟩ : ∃ g, g = w0.heap.size := ⟨_, rfl⟩
  rw [← hg1e] at H O0
  have hg1 : w0.heap.size ≤ g1 := by omega
  generalize w0.alloc (.cells (u8s (List.replicate 128 0)).toArray 5) = wa at *
  refine hK4 _ _ ?_
  clear hK4 K4
  refine wp_seq_k (fun K5 hK5 => ?_)
  refine e_region (fun R hR => ?_)
  refine e_op H rfl rfl (by decide) (x_assign H rfl rfl) ?_
  clear H a; intro a H
  refine e_nil (hR.out _ _ ?_)
  clear hR R
  refine hK5 _ _ ?_
  clear hK5 K5
  refine wp_seq_k (fun K6 hK6 => ?_)
  refine wp_seq_k (fun K7 hK7 => ?_)
  refine e_region (fun R hR => ?_)
  refine e_op H rfl rfl (by decide) (x_move H rfl rfl) ?_
  clear H a; intro a H
  refine e_op H rfl rfl (by decide) (x_nilCheck H rfl rfl) ?_
  clear H a; intro a H
  refine e_op H rfl rfl (by decide) (x_fieldAddr H rfl rfl (fa181_3 _ _)) ?_
  clear H a; intro a H
  refine e_op H rfl rfl (by decide) (x_load H rfl rfl (ld_marks (R0.ext E0).blk hlen)) ?_
  clear H a; intro a H
  refine e_op H rfl rfl (by decide) (x_move H rfl rfl) ?_
  clear H a; intro a H
  refine e_nil (hR.out _ _ ?_)
  clear hR R
  refine hK7 _ _ ?_
  clear hK7 K7
  refine wp_block ?_
  refine wp_loop_ghost (fun n a w => ∃ i, i ≤ 1024 ∧ n = 1024 - i ∧ Has a 47 [(0, .pointer (some ⟨g, 0, none⟩)), (3, .slice (some ⟨g1, 0, none⟩) 128 128), (4, .int .i64 ((usedB r.has i : Nat) : Int)), (14, .agg (bools r.has).toArray), (15, .int .i64 (i : Int))] ∧ Ow w w0.heap.size (some ⟨g1, 0, none⟩) 128 128 (markB r.has i) ∧ Ext w0 w) (1024) ?_ ?_
  · skip
    exact ⟨0, by omega, rfl, H.sub ⟨rfl, rfl, rfl, rfl, rfl, trivial⟩, by rw [hg1e] at O0 ⊢; exact O0, E0⟩
  · skip
    clear H O0 E0
    intro n a w hI
    obtain ⟨i, hi, rfl, H, O, E⟩ := hI
    have hml := markB_len r.has i
    rcases (show (i < 1024 ∧ gb r.has i = true) ∨ (i < 1024 ∧ gb r.has i = false) ∨ i = 1024 by cases gb r.has i <;> simp <;> omega) with ⟨hlt, hgb⟩ | ⟨hlt, hgb⟩ | rfl
    · skip
      skip
      refine wp_seq_k (fun K8 hK8 => ?_)
      refine e_region (fun R hR => ?_)
      refine e_op H rfl rfl (by decide) (x_binI H rfl rfl rfl (b_lss (b := true) (dec_t (by omega)))) ?_
      clear H a; intro a H
      refine e_nil (hR.out _ _ ?_)
      clear hR R
      refine hK8 _ _ ?_
      clear hK8 K8
      refine wp_seq_k (fun K9 hK9 => ?_)
      refine c_true H rfl ?_
      refine wp_skip ?_
      refine hK9 _ _ ?_
      clear hK9 K9
      refine wp_seq_k (fun K10 hK10 => ?_)
      refine wp_block ?_
      refine wp_seq_k (fun K11 hK11 => ?_)
      refine e_region (fun R hR => ?_)
      refine e_op H rfl rfl (by decide) (x_move H rfl rfl) ?_
      clear H a; intro a H
      refine e_op H rfl rfl (by decide) (x_index H rfl rfl rfl (i_val (m := i) Try.underlying179 Try.sizeOf4 Try.isAgg4 rfl hlt (by rw [List.getElem?_toArray, bools_get _ _ (by omega), hgb]))) ?_
      clear H a; intro a H
      refine e_op H rfl rfl (by decide) (x_assign H rfl rfl) ?_
      clear H a; intro a H
      refine e_op H rfl rfl (by decide) (x_assign H rfl rfl) ?_
      clear H a; intro a H
      refine e_nil (hR.out _ _ ?_)
      clear hR R
      refine hK11 _ _ ?_
      clear hK11 K11
      refine wp_seq_k (fun K12 hK12 => ?_)
      refine e_region (fun R hR => ?_)
      refine e_op H rfl rfl (by decide) (x_move H rfl rfl) ?_
      clear H a; intro a H
      refine e_nil (hR.out _ _ ?_)
      clear hR R
      refine hK12 _ _ ?_
      clear hK12 K12
      refine c_true H rfl ?_
      refine wp_seq_k (fun K13 hK13 => ?_)
      refine e_tail 10 (by kernel_rfl) (by kernel_rfl) (fun R hR => ?_)
      simp only [List.take_succ_cons, List.take_zero, List.drop_succ_cons, List.drop_zero]
      refine s_op H rfl rfl (by decide) (x_move H rfl rfl) ?_
      clear H a; intro a H
      refine s_op H rfl rfl (by decide) (x_move H rfl rfl) ?_
      clear H a; intro a H
      refine s_op H rfl rfl (by decide) (x_binI H rfl rfl rfl (b_quo (z := ((i / 8 : Nat) : Int)) (by decide) (by rw [Int.tdiv_eq_ediv_of_nonneg (by omega), IntKind.wrap_i64]; omega))) ?_
      clear H a; intro a H
      refine s_op H rfl rfl (by decide) (x_indexAddr H rfl rfl rfl (i_sl (m := i / 8) Try.underlying22 Try.sizeOf5 rfl (by omega))) ?_
      clear H a; intro a H
      refine s_op H rfl rfl (by decide) (x_load H rfl rfl (l_cell Try.isAgg5 (O.drew.bs.one (i / 8) (by omega)))) ?_
      clear H a; intro a H
      refine s_op H rfl rfl (by decide) (x_move H rfl rfl) ?_
      clear H a; intro a H
      refine s_op H rfl rfl (by decide) (x_binI H rfl rfl rfl (b_rem (z := ((i % 8 : Nat) : Int)) (by decide) (by rw [Int.tmod_eq_emod_of_nonneg (by omega)]; omega))) ?_
      clear H a; intro a H
      refine s_op H rfl rfl (by decide) (x_binI H rfl rfl rfl (b_shl (z := (2 : Int) ^ (i % 8) % 256) (by omega) (by rw [Int.toNat_natCast, show min (i % 8) IntKind.u8.bits = i % 8 by have : IntKind.u8.bits = 8 := rfl; omega, IntKind.wrap_u8, Int.one_mul]))) ?_
      clear H a; intro a H
      refine s_op H rfl rfl (by decide) (x_binI H rfl rfl rfl (b_or (z := ((((markB r.has i)[i / 8]?.getD 0) ||| UInt8.ofNat (2 ^ (i % 8))).toNat : Int)) (or_pow _ _ _))) ?_
      clear H a; intro a H
      refine s_op H rfl rfl (by decide) (x_indexAddr H rfl rfl rfl (i_sl0 (m := i / 8) Try.underlying22 Try.sizeOf5 rfl (by omega))) ?_
      clear H a; intro a H
      refine wpStill_nil ?_
      refine e_st H rfl rfl (x_store H rfl rfl rfl (st_cell rfl rfl Try.sizeOf5 (O.drew.rw_.froz _) (by have := O.drew.bs.one (i / 8) (by omega); rw [Nat.zero_add] at this; rw [this]; rfl))) ?_
      refine e_nil (hR.out _ _ ?_)
      clear hR R
      have O2 := O.drew.setAt (i / 8) (by omega) (((markB r.has i)[i / 8]?.getD 0) ||| UInt8.ofNat (2 ^ (i % 8))) _ rfl
      have hm : markB r.has (i + 1) = (markB r.has i).set (i / 8) (((markB r.has i)[i / 8]?.getD 0) ||| UInt8.ofNat (2 ^ (i % 8))) := by rw [markB, if_pos hgb]
      rw [← hm] at O2
      replace E := (E.dr).st hg1 (i / 8) (.int .u8 ((((markB r.has i)[i / 8]?.getD 0) ||| UInt8.ofNat (2 ^ (i % 8))).toNat : Int))
      generalize (w.drew.setCell ⟨g1, i / 8, none⟩ (.int .u8 ((((markB r.has i)[i / 8]?.getD 0) ||| UInt8.ofNat (2 ^ (i % 8))).toNat : Int))) = wb at *
      refine hK13 _ _ ?_
      clear hK13 K13
      refine e_region (fun R hR => ?_)
      refine e_op H rfl rfl (by decide) (x_move H rfl rfl) ?_
      clear H a; intro a H
      refine e_op H rfl rfl (by decide) (x_binI H rfl rfl rfl (b_quo (z := ((i / 8 : Nat) : Int)) (by decide) (by rw [Int.tdiv_eq_ediv_of_nonneg (by omega), IntKind.wrap_i64]; omega))) ?_
      clear H a; intro a H
      refine e_op H rfl rfl (by decide) (x_binI H rfl rfl rfl (b_add (z := ((i / 8 + 1 : Nat) : Int)) (by rw [IntKind.wrap_i64]; omega))) ?_
      clear H a; intro a H
      refine e_op H rfl rfl (by decide) (x_assign H rfl rfl) ?_
      clear H a; intro a H
      refine e_nil (hR.out _ _ ?_)
      clear hR R
      refine hK10 _ _ ?_
      clear hK10 K10
      refine e_region (fun R hR => ?_)
      refine e_op H rfl rfl (by decide) (x_binI H rfl rfl rfl (b_add (z := ((i + 1 : Nat) : Int)) (by rw [IntKind.wrap_i64]; omega))) ?_
      clear H a; intro a H
      refine e_op H rfl rfl (by decide) (x_move H rfl rfl) ?_
      clear H a; intro a H
      refine e_nil (hR.out _ _ ?_)
      clear hR R
      have hu : usedB r.has (i + 1) = i / 8 + 1 := by rw [usedB, if_pos hgb]
      exact ⟨1024 - (i + 1), by omega, i + 1, by omega, rfl, by rw [hu]; exact H.sub ⟨rfl, rfl, rfl, rfl, rfl, trivial⟩, O2, E⟩
    · skip
      skip
      refine wp_seq_k (fun K14 hK14 => ?_)
      refine e_region (fun R hR => ?_)
      refine e_op H rfl rfl (by decide) (x_binI H rfl rfl rfl (b_lss (b := true) (dec_t (by omega)))) ?_
      clear H a; intro a H
      refine e_nil (hR.out _ _ ?_)
      clear hR R
      refine hK14 _ _ ?_
      clear hK14 K14
      refine wp_seq_k (fun K15 hK15 => ?_)
      refine c_true H rfl ?_
      refine wp_skip ?_
      refine hK15 _ _ ?_
      clear hK15 K15
      refine wp_seq_k (fun K16 hK16 => ?_)
      refine wp_block ?_
      refine wp_seq_k (fun K17 hK17 => ?_)
      refine e_region (fun R hR => ?_)
      refine e_op H rfl rfl (by decide) (x_move H rfl rfl) ?_
      clear H a; intro a H
      refine e_op H rfl rfl (by decide) (x_index H rfl rfl rfl (i_val (m := i) Try.underlying179 Try.sizeOf4 Try.isAgg4 rfl hlt (by rw [List.getElem?_toArray, bools_get _ _ (by omega), hgb]))) ?_
      clear H a; intro a H
      refine e_op H rfl rfl (by decide) (x_assign H rfl rfl) ?_
      clear H a; intro a H
      refine e_op H rfl rfl (by decide) (x_assign H rfl rfl) ?_
      clear H a; intro a H
      refine e_nil (hR.out _ _ ?_)
      clear hR R
      refine hK17 _ _ ?_
      clear hK17 K17
      refine wp_seq_k (fun K18 hK18 => ?_)
      refine e_region (fun R hR => ?_)
      refine e_op H rfl rfl (by decide) (x_move H rfl rfl) ?_
      clear H a; intro a H
      refine e_nil (hR.out _ _ ?_)
      clear hR R
      refine hK18 _ _ ?_
      clear hK18 K18
      refine c_false H rfl ?_
      refine wp_skip ?_
      refine hK16 _ _ ?_
      clear hK16 K16
      refine e_region (fun R hR => ?_)
      refine e_op H rfl rfl (by decide) (x_binI H rfl rfl rfl (b_add (z := ((i + 1 : Nat) : Int)) (by rw [IntKind.wrap_i64]; omega))) ?_
      clear H a; intro a H
      refine e_op H rfl rfl (by decide) (x_move H rfl rfl) ?_
      clear H a; intro a H
      refine e_nil (hR.out _ _ ?_)
      clear hR R
      have hu : usedB r.has (i + 1) = usedB r.has i := by rw [usedB, if_neg (by rw [hgb]; simp)]
      have hm : markB r.has (i + 1) = markB r.has i := by rw [markB, if_neg (by rw [hgb]; simp)]
      exact ⟨1024 - (i + 1), by omega, i + 1, by omega, rfl, by rw [hu]; exact H.sub ⟨rfl, rfl, rfl, rfl, rfl, trivial⟩, by rw [hm]; exact O, E⟩
    · skip
      skip
      refine wp_seq_k (fun K19 hK19 => ?_)
      refine e_region (fun R hR => ?_)
      refine e_op H rfl rfl (by decide) (x_binI H rfl rfl rfl (b_lss (b := false) (dec_f (by omega)))) ?_
      clear H a; intro a H
      refine e_nil (hR.out _ _ ?_)
      clear hR R
      refine hK19 _ _ ?_
      clear hK19 K19
      refine wp_seq_k (fun K20 hK20 => ?_)
      refine c_false H rfl ?_
      refine wp_exit ?_
      refine t_exit ?_
      refine t_exit ?_
      refine b_hit ?_
      clear hK20 K20
      refine hK6 _ _ ?_
      clear hK6 K6
      refine wp_seq_k (fun K21 hK21 => ?_)
      refine e_region (fun R hR => ?_)
      refine e_op H rfl rfl (by decide) (x_buildSlice H rfl rfl (bs1 _ _)) ?_
      clear H a; intro a H
      have hB1 := Bs.new w #[.int .u8 2] 1 [UInt8.ofNat 2] rfl rfl
      have F1 := E.al (.cells #[.int .u8 2] 5)
      have O1 := O.ext_ ((Ext.refl w).al (.cells #[.int .u8 2] 5))
      obtain ⟨g2, hg2⟩ : ∃ g, g = w.heap.size := ⟨_, rfl⟩
      rw [← hg2] at H hB1
      obtain ⟨w1, hw1⟩ : ∃ w', w' = w.alloc (.cells #[.int .u8 2] 5) := ⟨_, rfl⟩
      rw [← hw1] at hB1 F1 O1 ⊢
      clear hw1
      refine e_op H rfl rfl (by decide) (x_move H rfl rfl) ?_
      clear H a; intro a H
      refine e_op H rfl rfl (by decide) (x_nilCheck H rfl rfl) ?_
      clear H a; intro a H
      refine e_op H rfl rfl (by decide) (x_fieldAddr H rfl rfl (fa181_0 _ _)) ?_
      clear H a; intro a H
      refine e_op H rfl rfl (by decide) (x_load H rfl rfl (l_cell Try.isAgg52 ((R0.ext F1).blk.at_ (i := 0) rfl))) ?_
      clear H a; intro a H
      refine e_op H rfl rfl (by decide) (x_conv H rfl rfl (c_int (z := (r.id : Int)) Try.underlying52 Try.underlying56 (by rw [IntKind.wrap_u64]; omega))) ?_
      clear H a; intro a H
      refine e_callq H rfl rfl (by decide) rfl rfl (Try.call46 _) (putUint_any (some ⟨g2, 0, none⟩) [UInt8.ofNat 2].length 1 [UInt8.ofNat 2] r.id w1 hB1 (fun h => by cases h) (by omega) (by simp)) ?_
      clear H a
      rintro e w2 ⟨a2, c2, rfl, O2, E2⟩
      refine ⟨_, rfl, fun a H => ?_⟩
      have F2 := F1.tr E2
      replace O1 := O1.ext_ E2
      refine e_op H rfl rfl (by decide) (x_assign H rfl rfl) ?_
      clear H a; intro a H
      refine e_nil (hR.out _ _ ?_)
      clear hR R
      refine hK21 _ _ ?_
      clear hK21 K21
      refine wp_seq_k (fun K22 hK22 => ?_)
      refine e_region (fun R hR => ?_)
      have hB3 : Bs w2 (some ⟨g1, 0, none⟩) (usedB r.has 1024) (ackB r.has) := by unfold ackB; exact bs_hi O1.bs _ (by omega)
      refine e_op H rfl rfl (by decide) (x_move H rfl rfl) ?_
      clear H a; intro a H
      refine e_op H rfl rfl (by decide) (x_move H rfl rfl) ?_
      clear H a; intro a H
      refine e_op H rfl rfl (by decide) (x_move H rfl rfl) ?_
      clear H a; intro a H
      refine e_op H rfl rfl (by decide) (x_slice H rfl rfl rfl rfl (sl_hi (hi := usedB r.has 1024) Try.underlying22 Try.sizeOf5 rfl (by omega))) ?_
      clear H a; intro a H
      refine e_callq H rfl rfl (by decide) rfl rfl (Try.call76 _) (putBytes_any a2 (some ⟨g1, 0, none⟩) ([UInt8.ofNat 2] ++ putU r.id).length c2 (usedB r.has 1024) 128 ([UInt8.ofNat 2] ++ putU r.id) (ackB r.has) w2 O2.bs hB3 (ow_cap O2) (fun h => by cases h) (by simp only [List.length_append, List.length_cons, List.length_nil]; omega) (by omega)) ?_
      clear H a
      rintro e w3 ⟨a3, c3, rfl, O3, E3⟩
      refine ⟨_, rfl, fun a H => ?_⟩
      have F3 := F2.tr E3
      refine e_callq H rfl rfl (by decide) rfl rfl (Try.call115 _) (seal_any w2.heap.size a3 (([UInt8.ofNat 2] ++ putU r.id) ++ putB (ackB r.has)).length c3 (([UInt8.ofNat 2] ++ putU r.id) ++ putB (ackB r.has)) w3 O3 (by simp only [List.length_append, List.length_cons, List.length_nil]; omega) E3.sz) ?_
      clear H a
      rintro e w4 ⟨a4, c4, rfl, O4, G4⟩
      refine ⟨_, rfl, fun a H => ?_⟩
      have hs2 := F2.sz
      have F4 : Ext w0 w4 := F3.grown G4 (fun k hk => Nat.le_trans hs2 (World.ownsRow.lt O3 k hk).1)
      refine e_op H rfl rfl (by decide) (x_assign H rfl rfl) ?_
      clear H a; intro a H
      refine e_nil (hR.out _ _ ?_)
      clear hR R
      refine hK22 _ _ ?_
      clear hK22 K22
      refine wp_ret ?_
      have hL : tseal (([UInt8.ofNat 2] ++ putU r.id) ++ putB (ackB r.has)) = ackP r.id r.has := by unfold ackP; simp
      have hLl : (([UInt8.ofNat 2] ++ putU r.id) ++ putB (ackB r.has)).length + 4 = (ackP r.id r.has).length := by rw [← hL, tseal_len]
      rw [hL, hLl] at O4
      rw [hLl] at H
      exact ret1 H rfl rfl ⟨a4, c4, rfl, O4.mono hs2, F4⟩
theorem ack_nil (w0 : World) : Calls Try.prog 57 #[.pointer none] w0 fun e w' => e = .returned (.slice none 0 0) ∧ w' = w0 := by
  refine calls_has (args := [.pointer none]) Try.func57 rfl Try.ntmps57 (Nat.le_of_ble_eq_true rfl) (fun a H => ?_)
  simp only [argl, Nat.reduceAdd] at H
  refine wp_seq_k (fun K1 hK1 => ?_)
  refine e_region (fun R hR => ?_)
  refine e_op H rfl rfl (by decide) (x_assign H rfl rfl) ?_
  clear H a; intro a H
  refine e_nil (hR.out _ _ ?_)
  clear hR R
  refine hK1 _ _ ?_
  clear hK1 K1
  refine wp_seq_k (fun K2 hK2 => ?_)
  refine wp_seq_k (fun K3 hK3 => ?_)
  refine e_region (fun R hR => ?_)
  refine e_op H rfl rfl (by decide) (x_move H rfl rfl) ?_
  clear H a; intro a H
  refine e_op H rfl rfl (by decide) (x_bin H rfl rfl rfl (by rw [eqGuard_at_pointer]; rfl) (b_pnil (c := true) Try.underlying65 rfl)) ?_
  clear H a; intro a H
  refine e_nil (hR.out _ _ ?_)
  clear hR R
  refine hK3 _ _ ?_
  clear hK3 K3
  refine c_true H rfl ?_
  refine wp_seq_k (fun K4 hK4 => ?_)
  refine e_region (fun R hR => ?_)
  refine e_op H rfl rfl (by decide) (x_assign H rfl rfl) ?_
  clear H a; intro a H
  refine e_nil (hR.out _ _ ?_)
  clear hR R
  refine hK4 _ _ ?_
  clear hK4 K4
  refine wp_ret ?_
  refine t_ret ?_
  exact ret1 H rfl rfl ⟨rfl, rfl⟩
end Go.Proofs.Ytknllmcpogoeoaa
