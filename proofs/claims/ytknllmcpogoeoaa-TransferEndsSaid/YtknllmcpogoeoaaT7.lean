/- A sender: Left, Done, packets, Out, NewSender, walked. -/
import Derived.Test.YtknllmcpogoeoaaT6
namespace Go.Proofs.Ytknllmcpogoeoaa
open Go.RowKit
set_option linter.unusedVariables false
set_option linter.unusedSimpArgs false
set_option maxRecDepth 100000
/-- a sender in memory: its block, the value of its file -/
structure Sn (w : World) (B g : Nat) (v : Value) (s : Snd) : Prop where
  blk : Blk w g 184 (sndCells (s.id : Int) v s.acked)
  file : ∃ a c, v = .slice a s.file.length c ∧ Ow w B a s.file.length c s.file
  len : s.acked.length = 1024
  idlt : s.id < 4294967296
  flt : s.file.length ≤ 65535
  low : B ≤ g
theorem Sn.ext {w w' : World} {B g : Nat} {v : Value} {s : Snd} (h : Sn w B g v s) (E : Ext w w') : Sn w' B g v s := by
  obtain ⟨a, c, h1, h2⟩ := h.file
  exact ⟨h.blk.ext E, ⟨a, c, h1, h2.ext_ E⟩, h.len, h.idlt, h.flt, h.low⟩
theorem Sn.mono {w : World} {B B' g : Nat} {v : Value} {s : Snd} (h : Sn w B g v s) (hB : B' ≤ B) : Sn w B' g v s := by
  obtain ⟨a, c, h1, h2⟩ := h.file
  exact ⟨h.blk, ⟨a, c, h1, h2.mono hB⟩, h.len, h.idlt, h.flt, Nat.le_trans hB h.low⟩
theorem snd_mark (id : Int) (v : Value) (l : List Bool) (i : Nat) (h : i < l.length) : (sndCells id v l)[2 + i]? = some (.bool (gb l i)) := by
  rw [Nat.add_comm]
  exact bools_get l i h
theorem rcv_mark (id : Int) (k : Bool) (v : Value) (l : List Bool) (i : Nat) (h : i < l.length) : (rcvCells id k v l)[3 + i]? = some (.bool (gb l i)) := by
  rw [Nat.add_comm]
  exact bools_get l i h
theorem snd_set (id : Int) (v : Value) (l : List Bool) (i : Nat) (b : Bool) : (sndCells id v l).set (2 + i) (.bool b) = sndCells id v (l.set i b) := by
  rw [Nat.add_comm]
  show _ :: _ :: (bools l).set i (.bool b) = _
  rw [bools_set]; rfl
theorem rcv_set (id : Int) (k : Bool) (v : Value) (l : List Bool) (i : Nat) (b : Bool) : (rcvCells id k v l).set (3 + i) (.bool b) = rcvCells id k v (l.set i b) := by
  rw [Nat.add_comm]
  show _ :: _ :: _ :: (bools l).set i (.bool b) = _
  rw [bools_set]; rfl
theorem chunks_le {n : Nat} (h : n ≤ 65535) : chunksT n ≤ 1024 := by unfold chunksT; omega
/-- the elements xs are byte slices of the call's own -/
structure Els (w : World) (B : Nat) (xs : List Value) (ls : List (List UInt8)) : Prop where
  len : xs.length = ls.length
  at_ : ∀ (i : Nat) (l : List UInt8), ls[i]? = some l → ∃ a c, xs[i]? = some (Value.slice a l.length c) ∧ Ow w B a l.length c l
section
variable {w w' : World} {B : Nat} {xs ys : List Value} {ls ms : List (List UInt8)}
theorem Els.nil (w : World) (B : Nat) : Els w B [] [] := ⟨rfl, fun i l h => by simp at h⟩
theorem Els.ext (h : Els w B xs ls) (E : Ext w w') : Els w' B xs ls := ⟨h.len, fun i l hl => by obtain ⟨a, c, h1, h2⟩ := h.at_ i l hl; exact ⟨a, c, h1, h2.ext_ E⟩⟩
theorem Els.mono {B' : Nat} (h : Els w B xs ls) (hB : B' ≤ B) : Els w B' xs ls := ⟨h.len, fun i l hl => by obtain ⟨a, c, h1, h2⟩ := h.at_ i l hl; exact ⟨a, c, h1, h2.mono hB⟩⟩
theorem Els.app (h : Els w B xs ls) (k : Els w B ys ms) : Els w B (xs ++ ys) (ls ++ ms) := by
  refine ⟨by rw [List.length_append, List.length_append, h.len, k.len], fun i l hl => ?_⟩
  by_cases hi : i < ls.length
  · rw [List.getElem?_append_left hi] at hl
    rw [List.getElem?_append_left (by rw [h.len]; exact hi)]
    exact h.at_ i l hl
  · rw [List.getElem?_append_right (by omega)] at hl
    rw [List.getElem?_append_right (by rw [h.len]; omega), h.len]
    exact k.at_ _ l hl
theorem Els.one {a : Option Addr} {n c : Nat} {l : List UInt8} (h : Ow w B a n c l) : Els w B [.slice a n c] [l] := by
  have hl := h.leng
  subst hl
  refine ⟨rfl, fun i m hm => ?_⟩
  cases i with
  | zero => simp at hm; subst hm; exact ⟨a, c, rfl, h⟩
  | succ i => simp at hm
theorem Els.cells1 (h : Els w B xs ls) : ∀ u ∈ xs, u.oneCell' = true := by
  intro u hu
  obtain ⟨i, hi⟩ := List.getElem?_of_mem hu
  have hlt := (List.getElem?_eq_some_iff.1 hi).1
  have hlt2 : i < ls.length := by rw [← h.len]; exact hlt
  obtain ⟨a, c, h1, _⟩ := h.at_ i ls[i] (List.getElem?_eq_getElem hlt2)
  rw [hi] at h1
  simp only [Option.some.injEq] at h1
  rw [h1]; rfl
theorem Els.pre (h : Els w B xs ls) (k : Nat) : Els w B (xs.take k) (ls.take k) := by
  refine ⟨by rw [List.length_take, List.length_take, h.len], fun i l hl => ?_⟩
  rw [List.getElem?_take] at hl ⊢
  split at hl
  · rename_i hi
    rw [if_pos hi]
    exact h.at_ i l hl
  · cases hl
theorem Els.cut (h : Els w B xs ls) (k : Nat) : Els w B (xs.drop k) (ls.drop k) := by
  refine ⟨by rw [List.length_drop, List.length_drop, h.len], fun i l hl => ?_⟩
  rw [List.getElem?_drop] at hl ⊢
  exact h.at_ _ l hl
/-- blocks of the list that are of another type, or none of these, may turn -/
theorem Els.frm {s : List Nat} (h : Els w B xs ls) (F : Frm s w w') (hs : ∀ (i : Nat) a n c g off, xs[i]? = some (Value.slice a n c) → a = some ⟨g, off, none⟩ → g ∉ s) : Els w' B xs ls :=
  ⟨h.len, fun i l hl => by obtain ⟨a, c, h1, h2⟩ := h.at_ i l hl; exact ⟨a, c, h1, h2.frm F (fun b off e => hs i a _ c b off h1 e)⟩⟩
end
theorem Ow.blk5 {w : World} {B : Nat} {g off n c : Nat} {l : List UInt8} (h : Ow w B (some ⟨g, off, none⟩) n c l) : ∃ cur, w.heap[g]? = some (.cells cur 5 (0, 0)) := by
  obtain ⟨_, _, cur, hc⟩ := h.rw_.blk g rfl
  exact ⟨cur, hc⟩
/-- bytes stay while a row of other elements grows -/
theorem Ow.past {w w' : World} {B B' e : Nat} {a : Option Addr} {n c : Nat} {l : List UInt8} {v : Value} {xs : List Value} (h : Ow w B a n c l) (r : Rw w B' e v xs) (hne : e ≠ 5) (G : w.grownBy w' v.ownBlock) : Ow w' B a n c l := by
  refine h.kept G (fun b off e1 => ?_)
  subst e1
  obtain ⟨cur, hc⟩ := h.blk5
  exact fun e2 => r.nt hc hne e2.symm
theorem Els.past {w w' : World} {B B' e : Nat} {v : Value} {xs ys : List Value} {ls : List (List UInt8)} (h : Els w B ys ls) (r : Rw w B' e v xs) (hne : e ≠ 5) (G : w.grownBy w' v.ownBlock) : Els w' B ys ls :=
  ⟨h.len, fun i l hl => by obtain ⟨a, c, h1, h2⟩ := h.at_ i l hl; exact ⟨a, c, h1, h2.past r hne G⟩⟩
theorem cutA_none {a : Option Addr} {c lo : Nat} (hz : a = none → c = 0) (e : cutA a c lo = none) : c - lo = 0 := by
  unfold cutA at e
  split at e
  · rename_i h; omega
  · cases a with
    | none => have := hz rfl; omega
    | some x => simp at e
theorem bs37 (a : Option Addr) (n c : Nat) (w : World) : (Instr.buildSlice 37 1 #[(0, .slice a n c)]).run Try.prog w = .ok (.slice (some ⟨w.heap.size, 0, none⟩) 1 1) (w.alloc (.cells [.slice a n c].toArray 22)) := by kernel_rfl
theorem left_any (B g : Nat) (v : Value) (s : Snd) (w0 : World) (R0 : Sn w0 B g v s) : Calls Try.prog 55 #[.pointer (some ⟨g, 0, none⟩)] w0 fun e w' => e = .returned (.int .i64 (((unm (gb s.acked) (chunksT s.file.length)).length : Nat) : Int)) ∧ w' = w0 := by
  obtain ⟨fa, fc, rfl, hO⟩ := R0.file
  have hn1 := chunks_le R0.flt
  have hflt := R0.flt
  have hlen := R0.len
  refine calls_has (args := [.pointer (some ⟨g, 0, none⟩)]) Try.func55 rfl Try.ntmps55 (Nat.le_of_ble_eq_true rfl) (fun a H => ?_)
  simp only [argl, Nat.reduceAdd] at H
  refine wp_seq_k (fun K1 hK1 => ?_)
  refine e_region (fun R hR => ?_)
  refine e_op H rfl rfl (by decide) (x_assign H rfl rfl) ?_
  clear H a; intro a H
  refine e_nil (hR.out _ _ ?_)
  clear hR R
  refine hK1 _ _ ?_
  clear hK1 K1
  refine wp_seq_k (fun K2 hK2 => ?_)
  refine wp_seq_k (fun K3 hK3 => ?_)
  refine e_region (fun R hR => ?_)
  refine e_op H rfl rfl (by decide) (x_move H rfl rfl) ?_
  clear H a; intro a H
  refine e_op H rfl rfl (by decide) (x_bin H rfl rfl rfl (by rw [eqGuard_at_pointer]; rfl) (b_pnil (c := false) Try.underlying64 rfl)) ?_
  clear H a; intro a H
  refine e_nil (hR.out _ _ ?_)
  clear hR R
  refine hK3 _ _ ?_
  clear hK3 K3
  refine c_false H rfl ?_
  refine wp_skip ?_
  refine hK2 _ _ ?_
  clear hK2 K2
  refine wp_seq_k (fun K4 hK4 => ?_)
  refine e_region (fun R hR => ?_)
  refine e_op H rfl rfl (by decide) (x_assign H rfl rfl) ?_
  clear H a; intro a H
  refine e_nil (hR.out _ _ ?_)
  clear hR R
  refine hK4 _ _ ?_
  clear hK4 K4
  refine wp_seq_k (fun K5 hK5 => ?_)
  refine wp_seq_k (fun K6 hK6 => ?_)
  refine e_region (fun R hR => ?_)
  refine e_op H rfl rfl (by decide) (x_move H rfl rfl) ?_
  clear H a; intro a H
  refine e_op H rfl rfl (by decide) (x_nilCheck H rfl rfl) ?_
  clear H a; intro a H
  refine e_op H rfl rfl (by decide) (x_fieldAddr H rfl rfl (fa184_1 _ _)) ?_
  clear H a; intro a H
  refine e_op H rfl rfl (by decide) (x_load H rfl rfl (l_cell Try.isAgg22 (R0.blk.at_ (i := 1) rfl))) ?_
  clear H a; intro a H
  refine e_op H rfl rfl (by decide) (x_builtin H rfl rfl (fun cs => len_sl Try.underlying22)) ?_
  clear H a; intro a H
  refine e_callp H rfl rfl (by decide) rfl rfl (Try.call109 _) (chunks_any s.file.length w0 (by omega)) ?_
  clear H a; intro a H
  refine e_op H rfl rfl (by decide) (x_move H rfl rfl) ?_
  clear H a; intro a H
  refine e_nil (hR.out _ _ ?_)
  clear hR R
  refine hK6 _ _ ?_
  clear hK6 K6
  refine wp_block ?_
  refine wp_loop_ghost (fun n a w => ∃ i, i ≤ (chunksT s.file.length) ∧ n = (chunksT s.file.length) - i ∧ Has a 27 [(0, .pointer (some ⟨g, 0, none⟩)), (3, .int .i64 (((unm (gb s.acked) i).length : Nat) : Int)), (12, .int .i64 (((chunksT s.file.length) : Nat) : Int)), (13, .int .i64 (i : Int))] ∧ w0 = w) ((chunksT s.file.length)) ?_ ?_
  · skip
    exact ⟨0, by omega, rfl, H.sub ⟨rfl, rfl, rfl, rfl, trivial⟩, rfl⟩
  · skip
    clear H
    intro n a w hI
    obtain ⟨i, hi, rfl, H, rfl⟩ := hI
    have hul := unm_len (gb s.acked) i
    rcases (show (i < (chunksT s.file.length) ∧ gb s.acked i = true) ∨ (i < (chunksT s.file.length) ∧ gb s.acked i = false) ∨ i = (chunksT s.file.length) by cases gb s.acked i <;> simp <;> omega) with ⟨hlt, hgb⟩ | ⟨hlt, hgb⟩ | hie
    · skip
      skip
      refine wp_seq_k (fun K7 hK7 => ?_)
      refine e_region (fun R hR => ?_)
      refine e_op H rfl rfl (by decide) (x_binI H rfl rfl rfl (b_lss (b := true) (dec_t (by omega)))) ?_
      clear H a; intro a H
      refine e_nil (hR.out _ _ ?_)
      clear hR R
      refine hK7 _ _ ?_
      clear hK7 K7
      refine wp_seq_k (fun K8 hK8 => ?_)
      refine c_true H rfl ?_
      refine wp_skip ?_
      refine hK8 _ _ ?_
      clear hK8 K8
      refine wp_seq_k (fun K9 hK9 => ?_)
      refine wp_block ?_
      refine wp_seq_k (fun K10 hK10 => ?_)
      refine e_region (fun R hR => ?_)
      refine e_op H rfl rfl (by decide) (x_move H rfl rfl) ?_
      clear H a; intro a H
      refine e_op H rfl rfl (by decide) (x_assign H rfl rfl) ?_
      clear H a; intro a H
      refine e_nil (hR.out _ _ ?_)
      clear hR R
      refine hK10 _ _ ?_
      clear hK10 K10
      refine wp_seq_k (fun K11 hK11 => ?_)
      refine e_region (fun R hR => ?_)
      refine e_op H rfl rfl (by decide) (x_move H rfl rfl) ?_
      clear H a; intro a H
      refine e_op H rfl rfl (by decide) (x_move H rfl rfl) ?_
      clear H a; intro a H
      refine e_op H rfl rfl (by decide) (x_nilCheck H rfl rfl) ?_
      clear H a; intro a H
      refine e_op H rfl rfl (by decide) (x_fieldAddr H rfl rfl (fa184_2 _ _)) ?_
      clear H a; intro a H
      refine e_op H rfl rfl (by decide) (x_indexAddr H rfl rfl rfl (i_arr (m := i) Try.underlying179 Try.sizeOf4 rfl (by omega))) ?_
      clear H a; intro a H
      refine e_op H rfl rfl (by decide) (x_load H rfl rfl (l_cell Try.isAgg4 (R0.blk.at_ (i := 2 + i) (by rw [snd_mark _ _ _ _ (by omega), hgb])))) ?_
      clear H a; intro a H
      refine e_op H rfl rfl (by decide) (x_un H rfl rfl (u_not (c := false) (rfl))) ?_
      clear H a; intro a H
      refine e_nil (hR.out _ _ ?_)
      clear hR R
      refine hK11 _ _ ?_
      clear hK11 K11
      refine c_false H rfl ?_
      refine wp_skip ?_
      refine hK9 _ _ ?_
      clear hK9 K9
      refine e_region (fun R hR => ?_)
      refine e_op H rfl rfl (by decide) (x_binI H rfl rfl rfl (b_add (z := ((i + 1 : Nat) : Int)) (by rw [IntKind.wrap_i64]; omega))) ?_
      clear H a; intro a H
      refine e_op H rfl rfl (by decide) (x_move H rfl rfl) ?_
      clear H a; intro a H
      refine e_nil (hR.out _ _ ?_)
      clear hR R
      have hu := unm_succ (gb s.acked) i
      rw [hgb] at hu
      simp only [Bool.false_eq_true, if_true, if_false] at hu
      exact ⟨(chunksT s.file.length) - (i + 1), by omega, i + 1, by omega, rfl, by rw [hu]; exact H.sub ⟨rfl, rfl, rfl, rfl, trivial⟩, rfl⟩
    · skip
      skip
      refine wp_seq_k (fun K12 hK12 => ?_)
      refine e_region (fun R hR => ?_)
      refine e_op H rfl rfl (by decide) (x_binI H rfl rfl rfl (b_lss (b := true) (dec_t (by omega)))) ?_
      clear H a; intro a H
      refine e_nil (hR.out _ _ ?_)
      clear hR R
      refine hK12 _ _ ?_
      clear hK12 K12
      refine wp_seq_k (fun K13 hK13 => ?_)
      refine c_true H rfl ?_
      refine wp_skip ?_
      refine hK13 _ _ ?_
      clear hK13 K13
      refine wp_seq_k (fun K14 hK14 => ?_)
      refine wp_block ?_
      refine wp_seq_k (fun K15 hK15 => ?_)
      refine e_region (fun R hR => ?_)
      refine e_op H rfl rfl (by decide) (x_move H rfl rfl) ?_
      clear H a; intro a H
      refine e_op H rfl rfl (by decide) (x_assign H rfl rfl) ?_
      clear H a; intro a H
      refine e_nil (hR.out _ _ ?_)
      clear hR R
      refine hK15 _ _ ?_
      clear hK15 K15
      refine wp_seq_k (fun K16 hK16 => ?_)
      refine e_region (fun R hR => ?_)
      refine e_op H rfl rfl (by decide) (x_move H rfl rfl) ?_
      clear H a; intro a H
      refine e_op H rfl rfl (by decide) (x_move H rfl rfl) ?_
      clear H a; intro a H
      refine e_op H rfl rfl (by decide) (x_nilCheck H rfl rfl) ?_
      clear H a; intro a H
      refine e_op H rfl rfl (by decide) (x_fieldAddr H rfl rfl (fa184_2 _ _)) ?_
      clear H a; intro a H
      refine e_op H rfl rfl (by decide) (x_indexAddr H rfl rfl rfl (i_arr (m := i) Try.underlying179 Try.sizeOf4 rfl (by omega))) ?_
      clear H a; intro a H
      refine e_op H rfl rfl (by decide) (x_load H rfl rfl (l_cell Try.isAgg4 (R0.blk.at_ (i := 2 + i) (by rw [snd_mark _ _ _ _ (by omega), hgb])))) ?_
      clear H a; intro a H
      refine e_op H rfl rfl (by decide) (x_un H rfl rfl (u_not (c := true) (rfl))) ?_
      clear H a; intro a H
      refine e_nil (hR.out _ _ ?_)
      clear hR R
      refine hK16 _ _ ?_
      clear hK16 K16
      refine c_true H rfl ?_
      refine e_region (fun R hR => ?_)
      refine e_op H rfl rfl (by decide) (x_move H rfl rfl) ?_
      clear H a; intro a H
      refine e_op H rfl rfl (by decide) (x_binI H rfl rfl rfl (b_add (z := ((((unm (gb s.acked) i)).length + 1 : Nat) : Int)) (by rw [IntKind.wrap_i64]; omega))) ?_
      clear H a; intro a H
      refine e_op H rfl rfl (by decide) (x_assign H rfl rfl) ?_
      clear H a; intro a H
      refine e_nil (hR.out _ _ ?_)
      clear hR R
      refine hK14 _ _ ?_
      clear hK14 K14
      refine e_region (fun R hR => ?_)
      refine e_op H rfl rfl (by decide) (x_binI H rfl rfl rfl (b_add (z := ((i + 1 : Nat) : Int)) (by rw [IntKind.wrap_i64]; omega))) ?_
      clear H a; intro a H
      refine e_op H rfl rfl (by decide) (x_move H rfl rfl) ?_
      clear H a; intro a H
      refine e_nil (hR.out _ _ ?_)
      clear hR R
      have hu := unm_succ (gb s.acked) i
      rw [hgb] at hu
      simp only [Bool.false_eq_true, if_true, if_false] at hu
      exact ⟨(chunksT s.file.length) - (i + 1), by omega, i + 1, by omega, rfl, by rw [hu, List.length_append]; exact H.sub ⟨rfl, rfl, rfl, rfl, trivial⟩, rfl⟩
    · skip
      skip
      refine wp_seq_k (fun K17 hK17 => ?_)
      refine e_region (fun R hR => ?_)
      refine e_op H rfl rfl (by decide) (x_binI H rfl rfl rfl (b_lss (b := false) (dec_f (by omega)))) ?_
      clear H a; intro a H
      refine e_nil (hR.out _ _ ?_)
      clear hR R
      refine hK17 _ _ ?_
      clear hK17 K17
      refine wp_seq_k (fun K18 hK18 => ?_)
      refine c_false H rfl ?_
      refine wp_exit ?_
      refine t_exit ?_
      refine t_exit ?_
      refine b_hit ?_
      clear hK18 K18
      refine hK5 _ _ ?_
      clear hK5 K5
      refine wp_seq_k (fun K19 hK19 => ?_)
      refine e_region (fun R hR => ?_)
      refine e_op H rfl rfl (by decide) (x_move H rfl rfl) ?_
      clear H a; intro a H
      refine e_op H rfl rfl (by decide) (x_assign H rfl rfl) ?_
      clear H a; intro a H
      refine e_nil (hR.out _ _ ?_)
      clear hR R
      refine hK19 _ _ ?_
      clear hK19 K19
      refine wp_ret ?_
      rw [hie] at H
      exact ret1 H rfl rfl ⟨rfl, rfl⟩
theorem left_nil (w0 : World) : Calls Try.prog 55 #[.pointer none] w0 fun e w' => e = .returned (.int .i64 0) ∧ w' = w0 := by
  refine calls_has (args := [.pointer none]) Try.func55 rfl Try.ntmps55 (Nat.le_of_ble_eq_true rfl) (fun a H => ?_)
  simp only [argl, Nat.reduceAdd] at H
  refine wp_seq_k (fun K1 hK1 => ?_)
  refine e_region (fun R hR => ?_)
  refine e_op H rfl rfl (by decide) (x_assign H rfl rfl) ?_
  clear H a; intro a H
  refine e_nil (hR.out _ _ ?_)
  clear hR R
  refine hK1 _ _ ?_
  clear hK1 K1
  refine wp_seq_k (fun K2 hK2 => ?_)
  refine wp_seq_k (fun K3 hK3 => ?_)
  refine e_region (fun R hR => ?_)
  refine e_op H rfl rfl (by decide) (x_move H rfl rfl) ?_
  clear H a; intro a H
  refine e_op H rfl rfl (by decide) (x_bin H rfl rfl rfl (by rw [eqGuard_at_pointer]; rfl) (b_pnil (c := true) Try.underlying64 rfl)) ?_
  clear H a; intro a H
  refine e_nil (hR.out _ _ ?_)
  clear hR R
  refine hK3 _ _ ?_
  clear hK3 K3
  refine c_true H rfl ?_
  refine wp_seq_k (fun K4 hK4 => ?_)
  refine e_region (fun R hR => ?_)
  refine e_op H rfl rfl (by decide) (x_assign H rfl rfl) ?_
  clear H a; intro a H
  refine e_nil (hR.out _ _ ?_)
  clear hR R
  refine hK4 _ _ ?_
  clear hK4 K4
  refine wp_ret ?_
  refine t_ret ?_
  exact ret1 H rfl rfl ⟨rfl, rfl⟩
theorem done_any (B g : Nat) (v : Value) (s : Snd) (w0 : World) (R0 : Sn w0 B g v s) : Calls Try.prog 54 #[.pointer (some ⟨g, 0, none⟩)] w0 fun e w' => e = .returned (.bool (decide ((unm (gb s.acked) (chunksT s.file.length)).length = 0))) ∧ w' = w0 := by
  refine calls_has (args := [.pointer (some ⟨g, 0, none⟩)]) Try.func54 rfl Try.ntmps54 (Nat.le_of_ble_eq_true rfl) (fun a H => ?_)
  simp only [argl, Nat.reduceAdd] at H
  refine wp_seq_k (fun K1 hK1 => ?_)
  refine e_region (fun R hR => ?_)
  refine e_op H rfl rfl (by decide) (x_assign H rfl rfl) ?_
  clear H a; intro a H
  refine e_nil (hR.out _ _ ?_)
  clear hR R
  refine hK1 _ _ ?_
  clear hK1 K1
  refine wp_seq_k (fun K2 hK2 => ?_)
  refine e_region (fun R hR => ?_)
  refine e_op H rfl rfl (by decide) (x_move H rfl rfl) ?_
  clear H a; intro a H
  refine e_op H rfl rfl (by decide) (x_bin H rfl rfl rfl (by rw [eqGuard_at_pointer]; rfl) (b_npnil (c := true) Try.underlying64 rfl)) ?_
  clear H a; intro a H
  refine e_op H rfl rfl (by decide) (x_move H rfl rfl) ?_
  clear H a; intro a H
  refine e_opg H (wanted_true H rfl rfl rfl rfl) rfl (by decide) (x_move H rfl rfl) ?_
  clear H a; intro a H
  refine e_callqg H (wanted_true H rfl rfl rfl rfl) rfl (by decide) rfl rfl (Try.call55 _) (left_any B g v s w0 R0) ?_
  clear H a
  rintro e wn ⟨rfl, hwn⟩
  subst hwn
  refine ⟨_, rfl, fun a H => ?_⟩
  refine e_opg H (wanted_true H rfl rfl rfl rfl) rfl (by decide) (x_binI H rfl rfl rfl (b_eql (b := (decide ((unm (gb s.acked) (chunksT s.file.length)).length = 0))) (by rw [Bool.eq_iff_iff, beq_iff_eq, decide_eq_true_eq]; omega))) ?_
  clear H a; intro a H
  refine e_op H rfl rfl (by decide) (x_pickT H rfl rfl rfl) ?_
  clear H a; intro a H
  refine e_op H rfl rfl (by decide) (x_assign H rfl rfl) ?_
  clear H a; intro a H
  refine e_nil (hR.out _ _ ?_)
  clear hR R
  refine hK2 _ _ ?_
  clear hK2 K2
  refine wp_ret ?_
  exact ret1 H rfl rfl ⟨rfl, rfl⟩
theorem done_nil (w0 : World) : Calls Try.prog 54 #[.pointer none] w0 fun e w' => e = .returned (.bool false) ∧ w' = w0 := by
  refine calls_has (args := [.pointer none]) Try.func54 rfl Try.ntmps54 (Nat.le_of_ble_eq_true rfl) (fun a H => ?_)
  simp only [argl, Nat.reduceAdd] at H
  refine wp_seq_k (fun K1 hK1 => ?_)
  refine e_region (fun R hR => ?_)
  refine e_op H rfl rfl (by decide) (x_assign H rfl rfl) ?_
  clear H a; intro a H
  refine e_nil (hR.out _ _ ?_)
  clear hR R
  refine hK1 _ _ ?_
  clear hK1 K1
  refine wp_seq_k (fun K2 hK2 => ?_)
  refine e_region (fun R hR => ?_)
  refine e_op H rfl rfl (by decide) (x_move H rfl rfl) ?_
  clear H a; intro a H
  refine e_op H rfl rfl (by decide) (x_bin H rfl rfl rfl (by rw [eqGuard_at_pointer]; rfl) (b_npnil (c := false) Try.underlying64 rfl)) ?_
  clear H a; intro a H
  refine e_op H rfl rfl (by decide) (x_move H rfl rfl) ?_
  clear H a; intro a H
  refine e_skip H (wanted_false H rfl rfl rfl rfl) rfl (by decide) ?_
  clear H a; intro a H
  refine e_skip H (wanted_false H rfl rfl rfl rfl) rfl (by decide) ?_
  clear H a; intro a H
  refine e_skip H (wanted_false H rfl rfl rfl rfl) rfl (by decide) ?_
  clear H a; intro a H
  refine e_op H rfl rfl (by decide) (x_pickF H rfl rfl rfl) ?_
  clear H a; intro a H
  refine e_op H rfl rfl (by decide) (x_assign H rfl rfl) ?_
  clear H a; intro a H
  refine e_nil (hR.out _ _ ?_)
  clear hR R
  refine hK2 _ _ ?_
  clear hK2 K2
  refine wp_ret ?_
  exact ret1 H rfl rfl ⟨rfl, rfl⟩
theorem packet_any (B g i : Nat) (v : Value) (s : Snd) (w0 : World) (R0 : Sn w0 B g v s) (hi : i < (chunksT s.file.length)) : Calls Try.prog 111 #[.pointer (some ⟨g, 0, none⟩), .int .i64 (i : Int)] w0 fun e w' =>
    ∃ a c, e = .returned (.slice a (pkt s.id s.file i).length c) ∧ Ow w' w0.heap.size a (pkt s.id s.file i).length c (pkt s.id s.file i) ∧ Ext w0 w' := by
  obtain ⟨fa, fc, rfl, hO⟩ := R0.file
  have hn1 := chunks_le R0.flt
  have hflt := R0.flt
  have hlen := R0.len
  have hidl := R0.idlt
  have hi3 : i * 64 ≤ s.file.length := by unfold chunksT at hi; omega
  have hfc := ow_le hO
  have hp1 := (putU_len s.id (by omega)).2
  have hp2 := (putU_len s.file.length (by omega)).2
  have hp3 := (putU_len i (by omega)).2
  have hcl := chk_len s.file i
  have hp4 : (putB (chk s.file i)).length ≤ 80 := by
    have := (putU_len (chk s.file i).length (by omega)).2
    unfold putB
    rw [List.length_append]; omega
  refine calls_has (args := [.pointer (some ⟨g, 0, none⟩), .int .i64 (i : Int)]) Try.func111 rfl Try.ntmps111 (Nat.le_of_ble_eq_true rfl) (fun a H => ?_)
  simp only [argl, Nat.reduceAdd] at H
  refine wp_seq_k (fun K1 hK1 => ?_)
  refine e_region (fun R hR => ?_)
  refine e_op H rfl rfl (by decide) (x_assign H rfl rfl) ?_
  clear H a; intro a H
  refine e_nil (hR.out _ _ ?_)
  clear hR R
  refine hK1 _ _ ?_
  clear hK1 K1
  refine wp_seq_k (fun K2 hK2 => ?_)
  refine e_region (fun R hR => ?_)
  refine e_op H rfl rfl (by decide) (x_buildSlice H rfl rfl (bs1 _ _)) ?_
  clear H a; intro a H
  have hB1 := Bs.new w0 #[.int .u8 1] 1 [UInt8.ofNat 1] rfl rfl
  have F1 := (Ext.refl w0).al (.cells #[.int .u8 1] 5)
  obtain ⟨g1, hg1⟩ : ∃ g, g = w0.heap.size := ⟨_, rfl⟩
  rw [← hg1] at H hB1
  obtain ⟨w1, hw1⟩ : ∃ w, w = w0.alloc (.cells #[.int .u8 1] 5) := ⟨_, rfl⟩
  rw [← hw1] at hB1 F1 ⊢
  clear hw1
  refine e_op H rfl rfl (by decide) (x_assign H rfl rfl) ?_
  clear H a; intro a H
  refine e_nil (hR.out _ _ ?_)
  clear hR R
  refine hK2 _ _ ?_
  clear hK2 K2
  refine wp_seq_k (fun K3 hK3 => ?_)
  refine e_region (fun R hR => ?_)
  refine e_op H rfl rfl (by decide) (x_move H rfl rfl) ?_
  clear H a; intro a H
  refine e_op H rfl rfl (by decide) (x_move H rfl rfl) ?_
  clear H a; intro a H
  refine e_op H rfl rfl (by decide) (x_nilCheck H rfl rfl) ?_
  clear H a; intro a H
  refine e_op H rfl rfl (by decide) (x_fieldAddr H rfl rfl (fa184_0 _ _)) ?_
  clear H a; intro a H
  refine e_op H rfl rfl (by decide) (x_load H rfl rfl (l_cell Try.isAgg52 ((R0.ext F1).blk.at_ (i := 0) rfl))) ?_
  clear H a; intro a H
  refine e_op H rfl rfl (by decide) (x_conv H rfl rfl (c_int (z := (s.id : Int)) Try.underlying52 Try.underlying56 (by rw [IntKind.wrap_u64]; omega))) ?_
  clear H a; intro a H
  refine e_callq H rfl rfl (by decide) rfl rfl (Try.call46 _) (putUint_any (some ⟨g1, 0, none⟩) [UInt8.ofNat 1].length 1 [UInt8.ofNat 1] s.id w1 hB1 (fun h => by cases h) (by omega) (by simp only [List.length_append, List.length_cons, List.length_nil]; omega)) ?_
  clear H a
  rintro e w2 ⟨a2, c2, rfl, O2, E2⟩
  refine ⟨_, rfl, fun a H => ?_⟩
  have F2 := F1.tr E2
  refine e_op H rfl rfl (by decide) (x_assign H rfl rfl) ?_
  clear H a; intro a H
  refine e_nil (hR.out _ _ ?_)
  clear hR R
  refine hK3 _ _ ?_
  clear hK3 K3
  refine wp_seq_k (fun K4 hK4 => ?_)
  refine e_region (fun R hR => ?_)
  refine e_op H rfl rfl (by decide) (x_move H rfl rfl) ?_
  clear H a; intro a H
  refine e_op H rfl rfl (by decide) (x_move H rfl rfl) ?_
  clear H a; intro a H
  refine e_op H rfl rfl (by decide) (x_nilCheck H rfl rfl) ?_
  clear H a; intro a H
  refine e_op H rfl rfl (by decide) (x_fieldAddr H rfl rfl (fa184_1 _ _)) ?_
  clear H a; intro a H
  refine e_op H rfl rfl (by decide) (x_load H rfl rfl (l_cell Try.isAgg22 ((R0.ext F2).blk.at_ (i := 1) rfl))) ?_
  clear H a; intro a H
  refine e_op H rfl rfl (by decide) (x_builtin H rfl rfl (fun cs => len_sl Try.underlying22)) ?_
  clear H a; intro a H
  refine e_op H rfl rfl (by decide) (x_conv H rfl rfl (c_int (z := (s.file.length : Int)) Try.underlying3 Try.underlying56 (by rw [IntKind.wrap_u64]; omega))) ?_
  clear H a; intro a H
  refine e_callq H rfl rfl (by decide) rfl rfl (Try.call46 _) (putUint_any a2 ([UInt8.ofNat 1] ++ putU s.id).length c2 ([UInt8.ofNat 1] ++ putU s.id) s.file.length w2 O2.bs (ow_cap O2) (by omega) (by simp only [List.length_append, List.length_cons, List.length_nil]; omega)) ?_
  clear H a
  rintro e w3 ⟨a3, c3, rfl, O3, E3⟩
  refine ⟨_, rfl, fun a H => ?_⟩
  have F3 := F2.tr E3
  refine e_op H rfl rfl (by decide) (x_assign H rfl rfl) ?_
  clear H a; intro a H
  refine e_nil (hR.out _ _ ?_)
  clear hR R
  refine hK4 _ _ ?_
  clear hK4 K4
  refine wp_seq_k (fun K5 hK5 => ?_)
  refine e_region (fun R hR => ?_)
  refine e_op H rfl rfl (by decide) (x_move H rfl rfl) ?_
  clear H a; intro a H
  refine e_op H rfl rfl (by decide) (x_move H rfl rfl) ?_
  clear H a; intro a H
  refine e_op H rfl rfl (by decide) (x_conv H rfl rfl (c_int (z := (i : Int)) Try.underlying3 Try.underlying56 (by rw [IntKind.wrap_u64]; omega))) ?_
  clear H a; intro a H
  refine e_callq H rfl rfl (by decide) rfl rfl (Try.call46 _) (putUint_any a3 (([UInt8.ofNat 1] ++ putU s.id) ++ putU s.file.length).length c3 (([UInt8.ofNat 1] ++ putU s.id) ++ putU s.file.length) i w3 O3.bs (ow_cap O3) (by omega) (by simp only [List.length_append, List.length_cons, List.length_nil]; omega)) ?_
  clear H a
  rintro e w4 ⟨a4, c4, rfl, O4, E4⟩
  refine ⟨_, rfl, fun a H => ?_⟩
  have F4 := F3.tr E4
  refine e_op H rfl rfl (by decide) (x_assign H rfl rfl) ?_
  clear H a; intro a H
  refine e_nil (hR.out _ _ ?_)
  clear hR R
  refine hK5 _ _ ?_
  clear hK5 K5
  refine wp_seq_k (fun K6 hK6 => ?_)
  refine e_region (fun R hR => ?_)
  refine e_op H rfl rfl (by decide) (x_move H rfl rfl) ?_
  clear H a; intro a H
  refine e_op H rfl rfl (by decide) (x_nilCheck H rfl rfl) ?_
  clear H a; intro a H
  refine e_op H rfl rfl (by decide) (x_fieldAddr H rfl rfl (fa184_1 _ _)) ?_
  clear H a; intro a H
  refine e_op H rfl rfl (by decide) (x_load H rfl rfl (l_cell Try.isAgg22 ((R0.ext F4).blk.at_ (i := 1) rfl))) ?_
  clear H a; intro a H
  refine e_op H rfl rfl (by decide) (x_builtin H rfl rfl (fun cs => len_sl Try.underlying22)) ?_
  clear H a; intro a H
  refine e_op H rfl rfl (by decide) (x_move H rfl rfl) ?_
  clear H a; intro a H
  refine e_callp H rfl rfl (by decide) rfl rfl (Try.call113 _) (bounds_any s.file.length i w4 (by omega) (by omega)) ?_
  clear H a; intro a H
  refine e_op H rfl rfl (by decide) (x_move H rfl rfl) ?_
  clear H a; intro a H
  refine e_op H rfl rfl (by decide) (x_extract H rfl rfl (v := .int .i64 ((i * 64 : Nat) : Int)) rfl) ?_
  clear H a; intro a H
  refine e_op H rfl rfl (by decide) (x_extract H rfl rfl (v := .int .i64 ((min ((i + 1) * 64) s.file.length : Nat) : Int)) rfl) ?_
  clear H a; intro a H
  refine e_op H rfl rfl (by decide) (x_assign H rfl rfl) ?_
  clear H a; intro a H
  refine e_op H rfl rfl (by decide) (x_assign H rfl rfl) ?_
  clear H a; intro a H
  refine e_nil (hR.out _ _ ?_)
  clear hR R
  refine hK6 _ _ ?_
  clear hK6 K6
  refine wp_seq_k (fun K7 hK7 => ?_)
  refine e_region (fun R hR => ?_)
  have hcut := bs_lh (hO.ext_ F4).bs (i * 64) (min ((i + 1) * 64) s.file.length) (by omega) (by omega) hfc
  rw [chk_cut] at hcut
  refine e_op H rfl rfl (by decide) (x_move H rfl rfl) ?_
  clear H a; intro a H
  refine e_op H rfl rfl (by decide) (x_move H rfl rfl) ?_
  clear H a; intro a H
  refine e_op H rfl rfl (by decide) (x_nilCheck H rfl rfl) ?_
  clear H a; intro a H
  refine e_op H rfl rfl (by decide) (x_fieldAddr H rfl rfl (fa184_1 _ _)) ?_
  clear H a; intro a H
  refine e_op H rfl rfl (by decide) (x_load H rfl rfl (l_cell Try.isAgg22 ((R0.ext F4).blk.at_ (i := 1) rfl))) ?_
  clear H a; intro a H
  refine e_op H rfl rfl (by decide) (x_move H rfl rfl) ?_
  clear H a; intro a H
  refine e_op H rfl rfl (by decide) (x_move H rfl rfl) ?_
  clear H a; intro a H
  refine e_op H rfl rfl (by decide) (x_slice H rfl rfl rfl rfl (sl_lh (lo := i * 64) (hi := min ((i + 1) * 64) s.file.length) Try.underlying22 Try.sizeOf5 rfl rfl (by omega) (by omega))) ?_
  clear H a; intro a H
  refine e_callq H rfl rfl (by decide) rfl rfl (Try.call76 _) (putBytes_any a4 (cutA fa fc (i * 64)) ((([UInt8.ofNat 1] ++ putU s.id) ++ putU s.file.length) ++ putU i).length c4 (min ((i + 1) * 64) s.file.length - i * 64) (fc - i * 64) ((([UInt8.ofNat 1] ++ putU s.id) ++ putU s.file.length) ++ putU i) (chk s.file i) w4 O4.bs hcut (ow_cap O4) (cutA_none (ow_cap hO)) (by simp only [List.length_append, List.length_cons, List.length_nil]; omega) (by omega)) ?_
  clear H a
  rintro e w5 ⟨a5, c5, rfl, O5, E5⟩
  refine ⟨_, rfl, fun a H => ?_⟩
  have F5 := F4.tr E5
  refine e_op H rfl rfl (by decide) (x_assign H rfl rfl) ?_
  clear H a; intro a H
  refine e_nil (hR.out _ _ ?_)
  clear hR R
  refine hK7 _ _ ?_
  clear hK7 K7
  refine wp_seq_k (fun K8 hK8 => ?_)
  refine e_region (fun R hR => ?_)
  refine e_op H rfl rfl (by decide) (x_move H rfl rfl) ?_
  clear H a; intro a H
  refine e_callq H rfl rfl (by decide) rfl rfl (Try.call115 _) (seal_any w4.heap.size a5 (((([UInt8.ofNat 1] ++ putU s.id) ++ putU s.file.length) ++ putU i) ++ putB (chk s.file i)).length c5 (((([UInt8.ofNat 1] ++ putU s.id) ++ putU s.file.length) ++ putU i) ++ putB (chk s.file i)) w5 O5 (by simp only [List.length_append, List.length_cons, List.length_nil]; omega) E5.sz) ?_
  clear H a
  rintro e w6 ⟨a6, c6, rfl, O6, G6⟩
  refine ⟨_, rfl, fun a H => ?_⟩
  have hs4 := F4.sz
  have F6 : Ext w0 w6 := F5.grown G6 (fun k hk => Nat.le_trans hs4 (World.ownsRow.lt O5 k hk).1)
  refine e_op H rfl rfl (by decide) (x_assign H rfl rfl) ?_
  clear H a; intro a H
  refine e_nil (hR.out _ _ ?_)
  clear hR R
  refine hK8 _ _ ?_
  clear hK8 K8
  refine wp_ret ?_
  have hL : tseal (((([UInt8.ofNat 1] ++ putU s.id) ++ putU s.file.length) ++ putU i) ++ putB (chk s.file i)) = pkt s.id s.file i := by unfold pkt pktB; simp
  have hLl : (((([UInt8.ofNat 1] ++ putU s.id) ++ putU s.file.length) ++ putU i) ++ putB (chk s.file i)).length + 4 = (pkt s.id s.file i).length := by rw [← hL, tseal_len]
  rw [hL, hLl] at O6
  rw [hLl] at H
  exact ret1 H rfl rfl ⟨a6, c6, rfl, O6.mono hs4, F6⟩
theorem out_any (B g : Nat) (v : Value) (s : Snd) (w0 : World) (R0 : Sn w0 B g v s) : Calls Try.prog 52 #[.pointer (some ⟨g, 0, none⟩)] w0 fun e w' =>
    ∃ v' xs, e = .returned v' ∧ Rw w' w0.heap.size 22 v' xs ∧ Els w' w0.heap.size xs ((((unm (gb s.acked) (chunksT s.file.length))).take 8).map (pkt s.id s.file)) ∧ Ext w0 w' := by
  obtain ⟨fa, fc, rfl, hO⟩ := R0.file
  have hn1 := chunks_le R0.flt
  have hflt := R0.flt
  have hlen := R0.len
  refine calls_has (args := [.pointer (some ⟨g, 0, none⟩)]) Try.func52 rfl Try.ntmps52 (Nat.le_of_ble_eq_true rfl) (fun a H => ?_)
  simp only [argl, Nat.reduceAdd] at H
  refine wp_seq_k (fun K1 hK1 => ?_)
  refine e_region (fun R hR => ?_)
  refine e_op H rfl rfl (by decide) (x_assign H rfl rfl) ?_
  clear H a; intro a H
  refine e_nil (hR.out _ _ ?_)
  clear hR R
  refine hK1 _ _ ?_
  clear hK1 K1
  refine wp_seq_k (fun K2 hK2 => ?_)
  refine wp_seq_k (fun K3 hK3 => ?_)
  refine e_region (fun R hR => ?_)
  refine e_op H rfl rfl (by decide) (x_move H rfl rfl) ?_
  clear H a; intro a H
  refine e_op H rfl rfl (by decide) (x_bin H rfl rfl rfl (by rw [eqGuard_at_pointer]; rfl) (b_pnil (c := false) Try.underlying64 rfl)) ?_
  clear H a; intro a H
  refine e_nil (hR.out _ _ ?_)
  clear hR R
  refine hK3 _ _ ?_
  clear hK3 K3
  refine c_false H rfl ?_
  refine wp_skip ?_
  refine hK2 _ _ ?_
  clear hK2 K2
  refine wp_seq_k (fun K4 hK4 => ?_)
  refine e_region (fun R hR => ?_)
  refine e_op H rfl rfl (by decide) (x_assign H rfl rfl) ?_
  clear H a; intro a H
  refine e_nil (hR.out _ _ ?_)
  clear hR R
  refine hK4 _ _ ?_
  clear hK4 K4
  refine wp_seq_k (fun K5 hK5 => ?_)
  refine wp_seq_k (fun K6 hK6 => ?_)
  refine e_region (fun R hR => ?_)
  refine e_op H rfl rfl (by decide) (x_assign H rfl rfl) ?_
  clear H a; intro a H
  refine e_nil (hR.out _ _ ?_)
  clear hR R
  refine hK6 _ _ ?_
  clear hK6 K6
  refine wp_block ?_
  refine wp_loop_ghost (fun n a w => ∃ i va c xs, i ≤ (chunksT s.file.length) ∧ n = (chunksT s.file.length) - i ∧ (unm (gb s.acked) i).length ≤ 8 ∧ Has a 36 [(0, .pointer (some ⟨g, 0, none⟩)), (3, .slice va xs.length c), (4, .int .i64 (i : Int))] ∧ Rw w w0.heap.size 22 (.slice va xs.length c) xs ∧ Els w w0.heap.size xs ((unm (gb s.acked) i).map (pkt s.id s.file)) ∧ Ext w0 w) ((chunksT s.file.length)) ?_ ?_
  · skip
    exact ⟨0, none, 0, [], by omega, rfl, by simp [unm], H.sub ⟨rfl, rfl, rfl, trivial⟩, Rw.nil _ _ _, Els.nil _ _, Ext.refl _⟩
  · skip
    clear H
    intro n a w hI
    obtain ⟨i, va, c, xs, hi, rfl, hl8, H, RW, EL, E⟩ := hI
    have hxl : xs.length = (unm (gb s.acked) i).length := by rw [EL.len, List.length_map]
    rcases (show (i < (chunksT s.file.length) ∧ xs.length < 8 ∧ gb s.acked i = true) ∨ (i < (chunksT s.file.length) ∧ xs.length < 8 ∧ gb s.acked i = false) ∨ (i < (chunksT s.file.length) ∧ xs.length = 8) ∨ i = (chunksT s.file.length) by cases gb s.acked i <;> simp <;> omega) with ⟨hlt, hx8, hgb⟩ | ⟨hlt, hx8, hgb⟩ | ⟨hlt, hx8⟩ | hie
    · skip
      skip
      refine wp_seq_k (fun K7 hK7 => ?_)
      refine wp_seq_k (fun K8 hK8 => ?_)
      refine e_region (fun R hR => ?_)
      refine e_op H rfl rfl (by decide) (x_move H rfl rfl) ?_
      clear H a; intro a H
      refine e_op H rfl rfl (by decide) (x_move H rfl rfl) ?_
      clear H a; intro a H
      refine e_op H rfl rfl (by decide) (x_nilCheck H rfl rfl) ?_
      clear H a; intro a H
      refine e_op H rfl rfl (by decide) (x_fieldAddr H rfl rfl (fa184_1 _ _)) ?_
      clear H a; intro a H
      refine e_op H rfl rfl (by decide) (x_load H rfl rfl (l_cell Try.isAgg22 ((R0.ext E).blk.at_ (i := 1) rfl))) ?_
      clear H a; intro a H
      refine e_op H rfl rfl (by decide) (x_builtin H rfl rfl (fun cs => len_sl Try.underlying22)) ?_
      clear H a; intro a H
      refine e_callp H rfl rfl (by decide) rfl rfl (Try.call109 _) (chunks_any s.file.length w (by omega)) ?_
      clear H a; intro a H
      refine e_op H rfl rfl (by decide) (x_binI H rfl rfl rfl (b_lss (b := true) (dec_t (by omega)))) ?_
      clear H a; intro a H
      refine e_op H rfl rfl (by decide) (x_move H rfl rfl) ?_
      clear H a; intro a H
      refine e_opg H (wanted_true H rfl rfl rfl rfl) rfl (by decide) (x_move H rfl rfl) ?_
      clear H a; intro a H
      refine e_opg H (wanted_true H rfl rfl rfl rfl) rfl (by decide) (x_builtin H rfl rfl (fun cs => len_sl Try.underlying37)) ?_
      clear H a; intro a H
      refine e_opg H (wanted_true H rfl rfl rfl rfl) rfl (by decide) (x_binI H rfl rfl rfl (b_lss (b := true) (dec_t (by omega)))) ?_
      clear H a; intro a H
      refine e_op H rfl rfl (by decide) (x_pickT H rfl rfl rfl) ?_
      clear H a; intro a H
      refine e_nil (hR.out _ _ ?_)
      clear hR R
      refine hK8 _ _ ?_
      clear hK8 K8
      refine c_true H rfl ?_
      refine wp_skip ?_
      refine hK7 _ _ ?_
      clear hK7 K7
      refine wp_seq_k (fun K9 hK9 => ?_)
      refine wp_block ?_
      refine wp_seq_k (fun K10 hK10 => ?_)
      refine e_region (fun R hR => ?_)
      refine e_op H rfl rfl (by decide) (x_move H rfl rfl) ?_
      clear H a; intro a H
      refine e_op H rfl rfl (by decide) (x_move H rfl rfl) ?_
      clear H a; intro a H
      refine e_op H rfl rfl (by decide) (x_nilCheck H rfl rfl) ?_
      clear H a; intro a H
      refine e_op H rfl rfl (by decide) (x_fieldAddr H rfl rfl (fa184_2 _ _)) ?_
      clear H a; intro a H
      refine e_op H rfl rfl (by decide) (x_indexAddr H rfl rfl rfl (i_arr (m := i) Try.underlying179 Try.sizeOf4 rfl (by omega))) ?_
      clear H a; intro a H
      refine e_op H rfl rfl (by decide) (x_load H rfl rfl (l_cell Try.isAgg4 ((R0.ext E).blk.at_ (i := 2 + i) (by rw [snd_mark _ _ _ _ (by omega), hgb])))) ?_
      clear H a; intro a H
      refine e_op H rfl rfl (by decide) (x_un H rfl rfl (u_not (c := false) (rfl))) ?_
      clear H a; intro a H
      refine e_nil (hR.out _ _ ?_)
      clear hR R
      refine hK10 _ _ ?_
      clear hK10 K10
      refine c_false H rfl ?_
      refine wp_skip ?_
      refine hK9 _ _ ?_
      clear hK9 K9
      refine e_region (fun R hR => ?_)
      refine e_op H rfl rfl (by decide) (x_move H rfl rfl) ?_
      clear H a; intro a H
      refine e_op H rfl rfl (by decide) (x_binI H rfl rfl rfl (b_add (z := ((i + 1 : Nat) : Int)) (by rw [IntKind.wrap_i64]; omega))) ?_
      clear H a; intro a H
      refine e_op H rfl rfl (by decide) (x_assign H rfl rfl) ?_
      clear H a; intro a H
      refine e_nil (hR.out _ _ ?_)
      clear hR R
      have hu := unm_succ (gb s.acked) i
      rw [hgb, if_pos rfl] at hu
      exact ⟨(chunksT s.file.length) - (i + 1), by omega, i + 1, va, c, xs, by omega, rfl, by rw [hu]; exact hl8, H.sub ⟨rfl, rfl, rfl, trivial⟩, RW, by rw [hu]; exact EL, E⟩
    · skip
      skip
      refine wp_seq_k (fun K11 hK11 => ?_)
      refine wp_seq_k (fun K12 hK12 => ?_)
      refine e_region (fun R hR => ?_)
      refine e_op H rfl rfl (by decide) (x_move H rfl rfl) ?_
      clear H a; intro a H
      refine e_op H rfl rfl (by decide) (x_move H rfl rfl) ?_
      clear H a; intro a H
      refine e_op H rfl rfl (by decide) (x_nilCheck H rfl rfl) ?_
      clear H a; intro a H
      refine e_op H rfl rfl (by decide) (x_fieldAddr H rfl rfl (fa184_1 _ _)) ?_
      clear H a; intro a H
      refine e_op H rfl rfl (by decide) (x_load H rfl rfl (l_cell Try.isAgg22 ((R0.ext E).blk.at_ (i := 1) rfl))) ?_
      clear H a; intro a H
      refine e_op H rfl rfl (by decide) (x_builtin H rfl rfl (fun cs => len_sl Try.underlying22)) ?_
      clear H a; intro a H
      refine e_callp H rfl rfl (by decide) rfl rfl (Try.call109 _) (chunks_any s.file.length w (by omega)) ?_
      clear H a; intro a H
      refine e_op H rfl rfl (by decide) (x_binI H rfl rfl rfl (b_lss (b := true) (dec_t (by omega)))) ?_
      clear H a; intro a H
      refine e_op H rfl rfl (by decide) (x_move H rfl rfl) ?_
      clear H a; intro a H
      refine e_opg H (wanted_true H rfl rfl rfl rfl) rfl (by decide) (x_move H rfl rfl) ?_
      clear H a; intro a H
      refine e_opg H (wanted_true H rfl rfl rfl rfl) rfl (by decide) (x_builtin H rfl rfl (fun cs => len_sl Try.underlying37)) ?_
      clear H a; intro a H
      refine e_opg H (wanted_true H rfl rfl rfl rfl) rfl (by decide) (x_binI H rfl rfl rfl (b_lss (b := true) (dec_t (by omega)))) ?_
      clear H a; intro a H
      refine e_op H rfl rfl (by decide) (x_pickT H rfl rfl rfl) ?_
      clear H a; intro a H
      refine e_nil (hR.out _ _ ?_)
      clear hR R
      refine hK12 _ _ ?_
      clear hK12 K12
      refine c_true H rfl ?_
      refine wp_skip ?_
      refine hK11 _ _ ?_
      clear hK11 K11
      refine wp_seq_k (fun K13 hK13 => ?_)
      refine wp_block ?_
      refine wp_seq_k (fun K14 hK14 => ?_)
      refine e_region (fun R hR => ?_)
      refine e_op H rfl rfl (by decide) (x_move H rfl rfl) ?_
      clear H a; intro a H
      refine e_op H rfl rfl (by decide) (x_move H rfl rfl) ?_
      clear H a; intro a H
      refine e_op H rfl rfl (by decide) (x_nilCheck H rfl rfl) ?_
      clear H a; intro a H
      refine e_op H rfl rfl (by decide) (x_fieldAddr H rfl rfl (fa184_2 _ _)) ?_
      clear H a; intro a H
      refine e_op H rfl rfl (by decide) (x_indexAddr H rfl rfl rfl (i_arr (m := i) Try.underlying179 Try.sizeOf4 rfl (by omega))) ?_
      clear H a; intro a H
      refine e_op H rfl rfl (by decide) (x_load H rfl rfl (l_cell Try.isAgg4 ((R0.ext E).blk.at_ (i := 2 + i) (by rw [snd_mark _ _ _ _ (by omega), hgb])))) ?_
      clear H a; intro a H
      refine e_op H rfl rfl (by decide) (x_un H rfl rfl (u_not (c := true) (rfl))) ?_
      clear H a; intro a H
      refine e_nil (hR.out _ _ ?_)
      clear hR R
      refine hK14 _ _ ?_
      clear hK14 K14
      refine c_true H rfl ?_
      refine e_region (fun R hR => ?_)
      refine e_op H rfl rfl (by decide) (x_move H rfl rfl) ?_
      clear H a; intro a H
      refine e_op H rfl rfl (by decide) (x_move H rfl rfl) ?_
      clear H a; intro a H
      refine e_op H rfl rfl (by decide) (x_move H rfl rfl) ?_
      clear H a; intro a H
      refine e_callq H rfl rfl (by decide) rfl rfl (Try.call111 _) (packet_any B g i _ s w (R0.ext E) hlt) ?_
      clear H a
      rintro e w2 ⟨a2, c2, rfl, O2, E2⟩
      refine ⟨_, rfl, fun a H => ?_⟩
      replace RW := RW.ext E2
      replace EL := EL.ext E2
      replace O2 := O2.mono E.sz
      replace E := E.tr E2
      refine e_op H rfl rfl (by decide) (x_buildSlice H rfl rfl (bs37 _ _ _ _)) ?_
      clear H a; intro a H
      obtain ⟨el, hel⟩ : ∃ el, el = Value.slice a2 (pkt s.id s.file i).length c2 := ⟨_, rfl⟩
      have E3 := E.al (.cells [el].toArray 22)
      obtain ⟨v4, w4, hr4, RW4, G4, hb4⟩ := Rw.app el37 (w2.alloc (.cells [el].toArray 22)) 37 w0.heap.size (RW.ext ((Ext.refl w2).al _)) (Rw.new w2 0 22 [el] (Nat.zero_le _) (by simp)) (fun u hu => by simp at hu; rw [hu, hel]; rfl) (by simp; omega) (by omega) E3.sz
      have E4 : Ext w0 w4 := E3.grown G4 (fun k hk => (RW.blk k hk).1)
      have EL4 := (EL.ext ((Ext.refl w2).al (.cells [el].toArray 22))).past (RW.ext ((Ext.refl w2).al _)) (by decide) G4
      have O4 := (O2.ext_ ((Ext.refl w2).al (.cells [el].toArray 22))).past (RW.ext ((Ext.refl w2).al _)) (by decide) G4
      rw [hel] at hr4
      obtain ⟨a4, c4, rfl, _⟩ := RW4.shape
      have hl4 : (xs ++ [el]).length = xs.length + 1 := by simp
      refine e_op H rfl rfl (by decide) (x_builtin H rfl rfl (fun cs => bi_app hr4)) ?_
      clear H a; intro a H
      refine e_op H rfl rfl (by decide) (x_assign H rfl rfl) ?_
      clear H a; intro a H
      refine e_nil (hR.out _ _ ?_)
      clear hR R
      refine hK13 _ _ ?_
      clear hK13 K13
      refine e_region (fun R hR => ?_)
      refine e_op H rfl rfl (by decide) (x_move H rfl rfl) ?_
      clear H a; intro a H
      refine e_op H rfl rfl (by decide) (x_binI H rfl rfl rfl (b_add (z := ((i + 1 : Nat) : Int)) (by rw [IntKind.wrap_i64]; omega))) ?_
      clear H a; intro a H
      refine e_op H rfl rfl (by decide) (x_assign H rfl rfl) ?_
      clear H a; intro a H
      refine e_nil (hR.out _ _ ?_)
      clear hR R
      have hu := unm_succ (gb s.acked) i
      rw [hgb] at hu
      simp only [Bool.false_eq_true, if_false] at hu
      refine ⟨(chunksT s.file.length) - (i + 1), by omega, i + 1, a4, c4, xs ++ [el], by omega, rfl, by rw [hu]; simp; omega, H.sub ⟨rfl, rfl, rfl, trivial⟩, RW4, ?_, E4⟩
      rw [hu, List.map_append, List.map_cons, List.map_nil, hel]
      exact EL4.app (Els.one O4)
    · skip
      skip
      refine wp_seq_k (fun K15 hK15 => ?_)
      refine wp_seq_k (fun K16 hK16 => ?_)
      refine e_region (fun R hR => ?_)
      refine e_op H rfl rfl (by decide) (x_move H rfl rfl) ?_
      clear H a; intro a H
      refine e_op H rfl rfl (by decide) (x_move H rfl rfl) ?_
      clear H a; intro a H
      refine e_op H rfl rfl (by decide) (x_nilCheck H rfl rfl) ?_
      clear H a; intro a H
      refine e_op H rfl rfl (by decide) (x_fieldAddr H rfl rfl (fa184_1 _ _)) ?_
      clear H a; intro a H
      refine e_op H rfl rfl (by decide) (x_load H rfl rfl (l_cell Try.isAgg22 ((R0.ext E).blk.at_ (i := 1) rfl))) ?_
      clear H a; intro a H
      refine e_op H rfl rfl (by decide) (x_builtin H rfl rfl (fun cs => len_sl Try.underlying22)) ?_
      clear H a; intro a H
      refine e_callp H rfl rfl (by decide) rfl rfl (Try.call109 _) (chunks_any s.file.length w (by omega)) ?_
      clear H a; intro a H
      refine e_op H rfl rfl (by decide) (x_binI H rfl rfl rfl (b_lss (b := true) (dec_t (by omega)))) ?_
      clear H a; intro a H
      refine e_op H rfl rfl (by decide) (x_move H rfl rfl) ?_
      clear H a; intro a H
      refine e_opg H (wanted_true H rfl rfl rfl rfl) rfl (by decide) (x_move H rfl rfl) ?_
      clear H a; intro a H
      refine e_opg H (wanted_true H rfl rfl rfl rfl) rfl (by decide) (x_builtin H rfl rfl (fun cs => len_sl Try.underlying37)) ?_
      clear H a; intro a H
      refine e_opg H (wanted_true H rfl rfl rfl rfl) rfl (by decide) (x_binI H rfl rfl rfl (b_lss (b := false) (dec_f (by omega)))) ?_
      clear H a; intro a H
      refine e_op H rfl rfl (by decide) (x_pickT H rfl rfl rfl) ?_
      clear H a; intro a H
      refine e_nil (hR.out _ _ ?_)
      clear hR R
      refine hK16 _ _ ?_
      clear hK16 K16
      refine c_false H rfl ?_
      refine wp_exit ?_
      refine t_exit ?_
      refine t_exit ?_
      refine b_hit ?_
      clear hK15 K15
      refine hK5 _ _ ?_
      clear hK5 K5
      refine wp_seq_k (fun K17 hK17 => ?_)
      refine e_region (fun R hR => ?_)
      refine e_op H rfl rfl (by decide) (x_move H rfl rfl) ?_
      clear H a; intro a H
      refine e_op H rfl rfl (by decide) (x_assign H rfl rfl) ?_
      clear H a; intro a H
      refine e_nil (hR.out _ _ ?_)
      clear hR R
      refine hK17 _ _ ?_
      clear hK17 K17
      refine wp_ret ?_
      have hx : (unm (gb s.acked) i) = ((unm (gb s.acked) (chunksT s.file.length))).take 8 := unm_take _ _ _ _ hi (.inr (by omega)) hl8
      rw [hx] at EL
      exact ret1 H rfl rfl ⟨_, xs, rfl, RW, EL, E⟩
    · skip
      skip
      refine wp_seq_k (fun K18 hK18 => ?_)
      refine wp_seq_k (fun K19 hK19 => ?_)
      refine e_region (fun R hR => ?_)
      refine e_op H rfl rfl (by decide) (x_move H rfl rfl) ?_
      clear H a; intro a H
      refine e_op H rfl rfl (by decide) (x_move H rfl rfl) ?_
      clear H a; intro a H
      refine e_op H rfl rfl (by decide) (x_nilCheck H rfl rfl) ?_
      clear H a; intro a H
      refine e_op H rfl rfl (by decide) (x_fieldAddr H rfl rfl (fa184_1 _ _)) ?_
      clear H a; intro a H
      refine e_op H rfl rfl (by decide) (x_load H rfl rfl (l_cell Try.isAgg22 ((R0.ext E).blk.at_ (i := 1) rfl))) ?_
      clear H a; intro a H
      refine e_op H rfl rfl (by decide) (x_builtin H rfl rfl (fun cs => len_sl Try.underlying22)) ?_
      clear H a; intro a H
      refine e_callp H rfl rfl (by decide) rfl rfl (Try.call109 _) (chunks_any s.file.length w (by omega)) ?_
      clear H a; intro a H
      refine e_op H rfl rfl (by decide) (x_binI H rfl rfl rfl (b_lss (b := false) (dec_f (by omega)))) ?_
      clear H a; intro a H
      refine e_op H rfl rfl (by decide) (x_move H rfl rfl) ?_
      clear H a; intro a H
      refine e_skip H (wanted_false H rfl rfl rfl rfl) rfl (by decide) ?_
      clear H a; intro a H
      refine e_skip H (wanted_false H rfl rfl rfl rfl) rfl (by decide) ?_
      clear H a; intro a H
      refine e_skip H (wanted_false H rfl rfl rfl rfl) rfl (by decide) ?_
      clear H a; intro a H
      refine e_op H rfl rfl (by decide) (x_pickF H rfl rfl rfl) ?_
      clear H a; intro a H
      refine e_nil (hR.out _ _ ?_)
      clear hR R
      refine hK19 _ _ ?_
      clear hK19 K19
      refine c_false H rfl ?_
      refine wp_exit ?_
      refine t_exit ?_
      refine t_exit ?_
      refine b_hit ?_
      clear hK18 K18
      refine hK5 _ _ ?_
      clear hK5 K5
      refine wp_seq_k (fun K20 hK20 => ?_)
      refine e_region (fun R hR => ?_)
      refine e_op H rfl rfl (by decide) (x_move H rfl rfl) ?_
      clear H a; intro a H
      refine e_op H rfl rfl (by decide) (x_assign H rfl rfl) ?_
      clear H a; intro a H
      refine e_nil (hR.out _ _ ?_)
      clear hR R
      refine hK20 _ _ ?_
      clear hK20 K20
      refine wp_ret ?_
      have hx : (unm (gb s.acked) i) = ((unm (gb s.acked) (chunksT s.file.length))).take 8 := unm_take _ _ _ _ hi (.inl hie) hl8
      rw [hx] at EL
      exact ret1 H rfl rfl ⟨_, xs, rfl, RW, EL, E⟩
theorem out_nil (w0 : World) : Calls Try.prog 52 #[.pointer none] w0 fun e w' => e = .returned (.slice none 0 0) ∧ w' = w0 := by
  refine calls_has (args := [.pointer none]) Try.func52 rfl Try.ntmps52 (Nat.le_of_ble_eq_true rfl) (fun a H => ?_)
  simp only [argl, Nat.reduceAdd] at H
  refine wp_seq_k (fun K1 hK1 => ?_)
  refine e_region (fun R hR => ?_)
  refine e_op H rfl rfl (by decide) (x_assign H rfl rfl) ?_
  clear H a; intro a H
  refine e_nil (hR.out _ _ ?_)
  clear hR R
  refine hK1 _ _ ?_
  clear hK1 K1
  refine wp_seq_k (fun K2 hK2 => ?_)
  refine wp_seq_k (fun K3 hK3 => ?_)
  refine e_region (fun R hR => ?_)
  refine e_op H rfl rfl (by decide) (x_move H rfl rfl) ?_
  clear H a; intro a H
  refine e_op H rfl rfl (by decide) (x_bin H rfl rfl rfl (by rw [eqGuard_at_pointer]; rfl) (b_pnil (c := true) Try.underlying64 rfl)) ?_
  clear H a; intro a H
  refine e_nil (hR.out _ _ ?_)
  clear hR R
  refine hK3 _ _ ?_
  clear hK3 K3
  refine c_true H rfl ?_
  refine wp_seq_k (fun K4 hK4 => ?_)
  refine e_region (fun R hR => ?_)
  refine e_op H rfl rfl (by decide) (x_assign H rfl rfl) ?_
  clear H a; intro a H
  refine e_nil (hR.out _ _ ?_)
  clear hR R
  refine hK4 _ _ ?_
  clear hK4 K4
  refine wp_ret ?_
  refine t_ret ?_
  exact ret1 H rfl rfl ⟨rfl, rfl⟩
theorem newSender_any (id : Nat) (ad : Option Addr) (n c : Nat) (l : List UInt8) (w0 : World) (hb : Bs w0 ad n l) (hz : ad = none → c = 0) (hn : n ≤ 65535) (hid : id ≤ 4294967295) :
    Calls Try.prog 99 #[.int .u32 (id : Int), .slice ad n c] w0 fun e w' => ∃ g v, e = .returned (.tuple #[.pointer (some ⟨g, 0, none⟩), .int .i64 0]) ∧ Sn w' w0.heap.size g v ⟨id, l, noMarks⟩ ∧ w0.heap.size ≤ g ∧ Ext w0 w' := by
  refine calls_has (args := [.int .u32 (id : Int), .slice ad n c]) Try.func99 rfl Try.ntmps99 (Nat.le_of_ble_eq_true rfl) (fun a H => ?_)
  simp only [argl, Nat.reduceAdd] at H
  refine wp_seq_k (fun K1 hK1 => ?_)
  refine e_region (fun R hR => ?_)
  refine e_op H rfl rfl (by decide) (x_assign H rfl rfl) ?_
  clear H a; intro a H
  refine e_op H rfl rfl (by decide) (x_assign H rfl rfl) ?_
  clear H a; intro a H
  refine e_nil (hR.out _ _ ?_)
  clear hR R
  refine hK1 _ _ ?_
  clear hK1 K1
  refine wp_seq_k (fun K2 hK2 => ?_)
  refine wp_seq_k (fun K3 hK3 => ?_)
  refine e_region (fun R hR => ?_)
  refine e_op H rfl rfl (by decide) (x_move H rfl rfl) ?_
  clear H a; intro a H
  refine e_op H rfl rfl (by decide) (x_builtin H rfl rfl (fun cs => len_sl Try.underlying22)) ?_
  clear H a; intro a H
  refine e_op H rfl rfl (by decide) (x_binI H rfl rfl rfl (b_gtr (b := false) (dec_f (by omega)))) ?_
  clear H a; intro a H
  refine e_nil (hR.out _ _ ?_)
  clear hR R
  refine hK3 _ _ ?_
  clear hK3 K3
  refine c_false H rfl ?_
  refine wp_skip ?_
  refine hK2 _ _ ?_
  clear hK2 K2
  refine wp_seq_k (fun K4 hK4 => ?_)
  refine e_region (fun R hR => ?_)
  refine e_op H rfl rfl (by decide) (x_move H rfl rfl) ?_
  clear H a; intro a H
  refine e_op H rfl rfl (by decide) (x_move H rfl rfl) ?_
  clear H a; intro a H
  refine e_callq H rfl rfl (by decide) rfl rfl (Try.call110 _) (clone_bs ad n c l w0 hb hz (by omega)) ?_
  clear H a
  rintro e w1 ⟨a1, c1, rfl, O1, E1⟩
  refine ⟨_, rfl, fun a H => ?_⟩
  refine e_op H rfl rfl (by decide) (x_build H rfl rfl (bld184 _ _ _ _ _)) ?_
  clear H a; intro a H
  refine e_op H rfl rfl (by decide) (x_box H rfl rfl bx_new) ?_
  clear H a; intro a H
  refine e_op H rfl rfl (by decide) (x_assign H rfl rfl) ?_
  clear H a; intro a H
  refine e_op H rfl rfl (by decide) (x_assign H rfl rfl) ?_
  clear H a; intro a H
  refine e_nil (hR.out _ _ ?_)
  clear hR R
  refine hK4 _ _ ?_
  clear hK4 K4
  refine wp_ret ?_
  have hl := hb.leng
  subst hl
  refine ret2 H rfl rfl rfl ⟨w1.heap.size, .slice a1 l.length c1, rfl, ⟨Blk.new w1 184 _, ⟨a1, c1, rfl, O1.ext_ ((Ext.refl w1).al _)⟩, List.length_replicate .., Nat.lt_of_le_of_lt hid (by omega), hn, E1.sz⟩, E1.sz, E1.al _⟩
theorem newSender_big (id : Int) (ad : Option Addr) (n c : Nat) (w0 : World) (hn : 65535 < n) :
    Calls Try.prog 99 #[.int .u32 id, .slice ad n c] w0 fun e w' => e = .returned (.tuple #[.pointer none, .int .i64 3]) ∧ w' = w0 := by
  refine calls_has (args := [.int .u32 id, .slice ad n c]) Try.func99 rfl Try.ntmps99 (Nat.le_of_ble_eq_true rfl) (fun a H => ?_)
  simp only [argl, Nat.reduceAdd] at H
  refine wp_seq_k (fun K1 hK1 => ?_)
  refine e_region (fun R hR => ?_)
  refine e_op H rfl rfl (by decide) (x_assign H rfl rfl) ?_
  clear H a; intro a H
  refine e_op H rfl rfl (by decide) (x_assign H rfl rfl) ?_
  clear H a; intro a H
  refine e_nil (hR.out _ _ ?_)
  clear hR R
  refine hK1 _ _ ?_
  clear hK1 K1
  refine wp_seq_k (fun K2 hK2 => ?_)
  refine wp_seq_k (fun K3 hK3 => ?_)
  refine e_region (fun R hR => ?_)
  refine e_op H rfl rfl (by decide) (x_move H rfl rfl) ?_
  clear H a; intro a H
  refine e_op H rfl rfl (by decide) (x_builtin H rfl rfl (fun cs => len_sl Try.underlying22)) ?_
  clear H a; intro a H
  refine e_op H rfl rfl (by decide) (x_binI H rfl rfl rfl (b_gtr (b := true) (dec_t (by omega)))) ?_
  clear H a; intro a H
  refine e_nil (hR.out _ _ ?_)
  clear hR R
  refine hK3 _ _ ?_
  clear hK3 K3
  refine c_true H rfl ?_
  refine wp_seq_k (fun K4 hK4 => ?_)
  refine e_region (fun R hR => ?_)
  refine e_op H rfl rfl (by decide) (x_assign H rfl rfl) ?_
  clear H a; intro a H
  refine e_op H rfl rfl (by decide) (x_assign H rfl rfl) ?_
  clear H a; intro a H
  refine e_nil (hR.out _ _ ?_)
  clear hR R
  refine hK4 _ _ ?_
  clear hK4 K4
  refine wp_ret ?_
  refine t_ret ?_
  exact ret2 H rfl rfl rfl ⟨rfl, rfl⟩
end Go.Proofs.Ytknllmcpogoeoaa
