/- A ring's file; a clock and a record read back: walked. -/
import Derived.Test.YtknllmcpogoeoaaR13
import Derived.Test.YtknllmcpogoeoaaNr
import Derived.Test.YtknllmcpogoeoaaFr2
import Derived.Test.YtknllmcpogoeoaaFp
namespace Go.Proofs.Ytknllmcpogoeoaa
open Go.RowKit
set_option linter.unusedVariables false
set_option linter.unusedSimpArgs false
set_option maxRecDepth 100000
theorem copy_rec (w : World) (y : Rcd) (u : Value) (h16 : y.words.length = 16) :
    Blk ((w.alloc (.cells zero95.toArray 95)).setRow w.heap.size (y.cells u).toArray) w.heap.size 95 (y.cells u) ∧ Ext w ((w.alloc (.cells zero95.toArray 95)).setRow w.heap.size (y.cells u).toArray) :=
  ⟨(Blk.new w 95 zero95).row _, ((Ext.refl w).al _).row_ (Nat.le_refl _) _⟩
section
variable {P : Program} {a : Act} {N : Nat} {l : List (Nat × Value)} {w : World}
theorem retctt {fn : Func} {p p2 p3 : Nat} {ty t : TypeId} {R : Ending → World → Prop} {g : Nat} {cs : Array Value} {d : TypeDesc} {v2 v3 : Value} (H : Has a N l) (hr : fn.results = #[.cell p ty, .tmp p2, .tmp p3]) (e : lk l p = some (.pointer (some ⟨g, 0, none⟩))) (e2 : lk l p2 = some v2) (e3 : lk l p3 = some v3)
    (hg : w.heap[g]? = some (.cells cs t (0, 0))) (hu : P.underlying ty = some d) (hd : (match d with | .struct _ | .array _ _ => true | _ => false) = true) (hi : (P.info? ty).map (·.size) = some cs.size)
    (h : R (.returned (.tuple #[.agg cs, v2, v3])) w) : bodyPost P fn R .ret a w := by
  have hp : a.tmps[p]?.getD undef = .pointer (some ⟨g, 0, none⟩) := by rw [H.at_ p _ e]; rfl
  have hp2 : a.tmps[p2]?.getD undef = v2 := by rw [H.at_ p2 _ e2]; rfl
  have hp3 : a.tmps[p3]?.getD undef = v3 := by rw [H.at_ p3 _ e3]; rfl
  exact bodyPost_ret (v := .tuple #[.agg cs, v2, v3]) (by simp [results, hr, hp, hp2, hp3, asAddr, run_loadVar_row w g t ty cs (0, 0) d hg hu hd hi]) H.nod h
theorem retct {fn : Func} {p p2 : Nat} {ty t : TypeId} {R : Ending → World → Prop} {g : Nat} {cs : Array Value} {d : TypeDesc} {v2 : Value} (H : Has a N l) (hr : fn.results = #[.cell p ty, .tmp p2]) (e : lk l p = some (.pointer (some ⟨g, 0, none⟩))) (e2 : lk l p2 = some v2)
    (hg : w.heap[g]? = some (.cells cs t (0, 0))) (hu : P.underlying ty = some d) (hd : (match d with | .struct _ | .array _ _ => true | _ => false) = true) (hi : (P.info? ty).map (·.size) = some cs.size)
    (h : R (.returned (.tuple #[.agg cs, v2])) w) : bodyPost P fn R .ret a w := by
  have hp : a.tmps[p]?.getD undef = .pointer (some ⟨g, 0, none⟩) := by rw [H.at_ p _ e]; rfl
  have hp2 : a.tmps[p2]?.getD undef = v2 := by rw [H.at_ p2 _ e2]; rfl
  exact bodyPost_ret (v := .tuple #[.agg cs, v2]) (by simp [results, hr, hp, hp2, asAddr, run_loadVar_row w g t ty cs (0, 0) d hg hu hd hi]) H.nod h
end
theorem z88 (w : World) : (zeroValue 88).run Try.prog w = .ok (.agg (u64s zeros16).toArray) w := by rw [Try.zeroValue88]; rfl
theorem filesB_succ (l : List Rcd) (i : Nat) (x : Rcd) (h : l[i]? = some x) : fileOf ((l.take (i + 1)).map Rcd.bytes) = fileOf ((l.take i).map Rcd.bytes) ++ frameOf x.bytes := by
  rw [List.take_add_one, h]
  unfold fileOf
  simp
theorem filesB_le (l : List Rcd) (h : ∀ x ∈ l, x.words.length = 16) : ∀ i, (fileOf ((l.take i).map Rcd.bytes)).length ≤ i * 408
  | 0 => by simp [fileOf]
  | i + 1 => by
    have ih := filesB_le l h i
    cases hx : l[i]? with
    | none =>
      rw [List.take_of_length_le (by have := List.getElem?_eq_none_iff.1 hx; omega)]
      rw [List.take_of_length_le (by have := List.getElem?_eq_none_iff.1 hx; omega)] at ih
      omega
    | some x =>
      rw [filesB_succ l i x hx, List.length_append, frameOf_len]
      have := size_le x (h x (List.mem_of_getElem? hx))
      unfold Rcd.size at this
      omega
/-- a clock of which the first i words are set -/
def upTo (ws : List Nat) (i : Nat) : List Nat := ws.take i ++ List.replicate (16 - i) 0
theorem upTo_len {ws : List Nat} {i : Nat} (h : ws.length = 16) (hi : i ≤ 16) : (upTo ws i).length = 16 := by
  unfold upTo
  rw [List.length_append, List.length_take, List.length_replicate]
  omega
theorem upTo_succ {ws : List Nat} {i : Nat} (h : ws.length = 16) (hi : i < 16) : (upTo ws i).set i (ws[i]?.getD 0) = upTo ws (i + 1) := by
  unfold upTo
  rw [List.set_append_right _ _ (by rw [List.length_take]; omega), List.length_take, List.take_add_one, List.getElem?_eq_getElem (by omega), show i - min i ws.length = 0 by omega, show 16 - i = (16 - (i + 1)) + 1 by omega, List.replicate_succ, List.append_assoc]
  rfl
theorem clen_zero (ws : List Nat) : ∀ k j, clen ws k ≤ j → j < k → ws[j]?.getD 0 = 0
  | 0, j, _, h => by omega
  | k + 1, j, h1, h2 => by
    unfold clen at h1
    split at h1
    · rcases Nat.lt_or_ge j k with h | h
      · exact clen_zero ws k j h1 h
      · rw [show j = k by omega]; assumption
    · omega
theorem upTo_clen {ws : List Nat} (h : ws.length = 16) : upTo ws (clen ws 16) = ws := by
  have hl := clen_le ws 16
  refine List.ext_getElem? fun j => ?_
  unfold upTo
  rcases Nat.lt_or_ge j (clen ws 16) with hj | hj
  · rw [List.getElem?_append_left (by rw [List.length_take]; omega), List.getElem?_take_of_lt hj]
  · rw [List.getElem?_append_right (by rw [List.length_take]; omega), List.length_take]
    rcases Nat.lt_or_ge j 16 with h16 | h16
    · have := clen_zero ws 16 j hj h16
      have hj2 : ws[j]? = some (ws[j]'(by omega)) := List.getElem?_eq_getElem _
      rw [hj2] at this ⊢
      simp only [Option.getD_some] at this
      rw [this, List.getElem?_replicate, if_pos (by rw [h]; omega)]
    · rw [List.getElem?_eq_none (by rw [List.length_replicate]; omega), List.getElem?_eq_none (by omega)]
theorem wordsB_full (ws : List Nat) (k : Nat) : ∀ i, i ≤ k → k ≤ ws.length → ∃ r, wordsB ws k = wordsB ws i ++ r ∧ (i < k → ∃ r', r = putU (ws[i]?.getD 0) ++ r') := by
  intro i hi hk
  refine ⟨((ws.take k).drop i).flatMap putU, ?_, fun hlt => ⟨((ws.take k).drop (i + 1)).flatMap putU, ?_⟩⟩
  · unfold wordsB
    rw [← List.flatMap_append]
    congr 1
    conv => lhs; rw [← List.take_append_drop i (ws.take k)]
    rw [List.take_take, Nat.min_eq_left hi]
  · rw [List.drop_eq_getElem_cons (by rw [List.length_take]; omega), List.flatMap_cons]
    congr 2
    rw [List.getElem_take, List.getElem?_eq_getElem (by omega)]
    rfl
theorem Ow.ext_ {w w' : World} {B : Nat} {a : Option Addr} {n c : Nat} {l : List UInt8} (h : Ow w B a n c l) (E : Ext w w') : Ow w' B a n c l := E.row h
theorem ow_cap {w : World} {B : Nat} {a : Option Addr} {n c : Nat} {l : List UInt8} (h : Ow w B a n c l) : a = none → c = 0 := by
  intro e
  rcases h.2 with ⟨e2, _⟩ | ⟨g, cap, cur, e2, _⟩
  · simp only [Value.slice.injEq] at e2; exact e2.2.2
  · simp only [Value.slice.injEq] at e2; rw [e2.1] at e; cases e
theorem ow_le {w : World} {B : Nat} {a : Option Addr} {n c : Nat} {l : List UInt8} (h : Ow w B a n c l) : n ≤ c := by
  rcases h.2 with ⟨e2, h0⟩ | ⟨g, cap, cur, e2, _, _, h1, _⟩
  · simp only [Value.slice.injEq] at e2; omega
  · simp only [Value.slice.injEq] at e2; omega
theorem file_any (B g : Nat) (v : Value) (ps : List (Rcd × Value)) (r : Rg) (w0 : World) (R0 : Rn w0 B g v ps r) (hn : ps.length ≤ 1000000) :
    Calls Try.prog 71 #[.pointer (some ⟨g, 0, none⟩)] w0 (OutPost (fileOf (r.records.map Rcd.bytes)) w0) := by
  refine calls_has (args := [.pointer (some ⟨g, 0, none⟩)]) Try.func71 rfl Try.ntmps71 (Nat.le_of_ble_eq_true rfl) (fun a H => ?_)
  simp only [argl, Nat.reduceAdd] at H
  refine wp_seq_k (fun K1 hK1 => ?_)
  refine e_region (fun R hR => ?_)
  refine e_op H rfl rfl (by decide) (x_assign H rfl rfl) ?_
  clear H a; intro a H
  refine e_nil (hR.out _ _ ?_)
  clear hR R
  refine hK1 _ _ ?_
  clear hK1 K1
  refine wp_seq_k (fun K2 hK2 => ?_)
  refine e_region (fun R hR => ?_)
  refine e_op H rfl rfl (by decide) (x_assign H rfl rfl) ?_
  clear H a; intro a H
  refine e_nil (hR.out _ _ ?_)
  clear hR R
  refine hK2 _ _ ?_
  clear hK2 K2
  refine wp_seq_k (fun K3 hK3 => ?_)
  refine wp_seq_k (fun K4 hK4 => ?_)
  refine e_region (fun R hR => ?_)
  refine e_op H rfl rfl (by decide) (x_move H rfl rfl) ?_
  clear H a; intro a H
  refine e_callq H rfl rfl (by decide) rfl rfl (Try.call69 _) (records_any B g v ps r w0 R0 hn) ?_
  clear H a
  rintro e w1 ⟨vq, qs, rfl, RL, hqs, E⟩
  refine ⟨_, rfl, fun a H => ?_⟩
  obtain ⟨qa, qc, rfl, _⟩ := RL.row.shape
  have hql : qs.length ≤ 1000001 := by have h1 := congrArg List.length hqs; have h2 := congrArg List.length R0.eq; rw [List.length_map] at h1 h2; rw [h1]; unfold Rg.records; split <;> simp <;> omega
  have h16 : ∀ x ∈ r.records, x.words.length = 16 := fun x hx => by rw [← hqs] at hx; obtain ⟨q, hq, rfl⟩ := List.mem_map.1 hx; exact RL.w16 q hq
  refine e_op H rfl rfl (by decide) (x_builtin H rfl rfl (fun cs => len_sl under84)) ?_
  clear H a; intro a H
  refine e_op H rfl rfl (by decide) (x_move H rfl rfl) ?_
  clear H a; intro a H
  refine e_nil (hR.out _ _ ?_)
  clear hR R
  refine hK4 _ _ ?_
  clear hK4 K4
  refine wp_block ?_
  refine wp_loop_ghost (fun n a w => ∃ i va c, i ≤ qs.length ∧ n = qs.length - i ∧ Has a 27 [(3, .slice va (fileOf ((r.records.take i).map Rcd.bytes)).length c), (9, .slice qa qs.length qc), (10, .int .i64 ((qs.length : Nat) : Int)), (11, .int .i64 (i : Int))] ∧ Ow w w0.heap.size va (fileOf ((r.records.take i).map Rcd.bytes)).length c (fileOf ((r.records.take i).map Rcd.bytes)) ∧ Rl w w0.heap.size (.slice qa qs.length qc) qs ∧ Ext w0 w) (qs.length) ?_ ?_
  · skip
    exact ⟨0, none, 0, by omega, rfl, H.sub ⟨rfl, rfl, rfl, rfl, trivial⟩, ow_nil _ _, RL, E⟩
  · skip
    clear H RL E
    intro n a w hI
    obtain ⟨i, va, c, hi, rfl, H, hO, RL, E⟩ := hI
    rcases (show i < qs.length ∨ i = qs.length by omega) with hlt | rfl
    · skip
      obtain ⟨⟨y, uy⟩, hp⟩ : ∃ p, qs[i]? = some p := ⟨_, List.getElem?_eq_getElem hlt⟩
      obtain ⟨gq, oq, hqa, hcl, hok, hzp, _⟩ := RL.at_ i (y, uy) hp
      subst hqa
      have hld := ld_elem RL i (y, uy) hp
      simp only at hok hzp hld
      obtain ⟨ua, uc, rfl, _⟩ := (Sr.of hzp.1).shape
      have hy : r.records[i]? = some y := by rw [← hqs, List.getElem?_map, hp]; rfl
      have hyl : y.bytes.length ≤ 400 := size_le y hok.words
      have hfl := filesB_le r.records h16 i
      refine wp_seq_k (fun K5 hK5 => ?_)
      refine e_region (fun R hR => ?_)
      refine e_op H rfl rfl (by decide) (x_binI H rfl rfl rfl (b_lss (b := true) (dec_t (by omega)))) ?_
      clear H a; intro a H
      refine e_nil (hR.out _ _ ?_)
      clear hR R
      refine hK5 _ _ ?_
      clear hK5 K5
      refine wp_seq_k (fun K6 hK6 => ?_)
      refine c_true H rfl ?_
      refine wp_skip ?_
      refine hK6 _ _ ?_
      clear hK6 K6
      refine wp_seq_k (fun K7 hK7 => ?_)
      refine wp_block ?_
      refine wp_seq_k (fun K8 hK8 => ?_)
      refine e_region (fun R hR => ?_)
      refine e_op H rfl rfl (by decide) (x_indexAddr H rfl rfl rfl (i_slN (m := i) under84 size95 rfl hlt)) ?_
      clear H a; intro a H
      refine e_op H rfl rfl (by decide) (x_load H rfl rfl hld) ?_
      clear H a; intro a H
      refine e_op H rfl rfl (by decide) (x_alloc H rfl (al_new (z95 _))) ?_
      clear H a; intro a H
      refine e_st H rfl rfl (x_store H rfl rfl rfl (st_row (Blk.new w 95 zero95) (by rw [info95]; simp [Rcd.cells_len _ _ hok.words]) (by simp [Rcd.cells_len _ _ hok.words, zero95]) (by rw [Array.all_eq_true']; intro z hz; exact cells_one y ua y.ev.args.length uc z (by simpa using hz)))) ?_
      obtain ⟨T, Ex⟩ := copy_rec w y (.slice ua y.ev.args.length uc) hok.words
      obtain ⟨gx, hgx⟩ : ∃ g, g = w.heap.size := ⟨_, rfl⟩
      rw [← hgx] at H T Ex
      rw [← hgx]
      generalize (w.alloc (.cells zero95.toArray 95)).setRow gx (y.cells (.slice ua y.ev.args.length uc)).toArray = wa at *
      replace hO := hO.ext_ Ex
      replace RL := RL.ext Ex
      replace hzp := hzp.ext Ex
      replace E := E.tr Ex
      refine e_nil (hR.out _ _ ?_)
      clear hR R
      refine hK8 _ _ ?_
      clear hK8 K8
      refine wp_seq_k (fun K9 hK9 => ?_)
      refine e_region (fun R hR => ?_)
      refine e_op H rfl rfl (by decide) (x_move H rfl rfl) ?_
      clear H a; intro a H
      refine e_op H rfl rfl (by decide) (x_load H rfl rfl (ld_rec T hok.words)) ?_
      clear H a; intro a H
      refine e_callq H rfl rfl (by decide) rfl rfl (Try.call70 _) (rbytes_any y (.slice ua y.ev.args.length uc) wa hok hzp.zl) ?_
      clear H a
      rintro e wb ⟨ab, cb, rfl, hOb, Eb⟩
      refine ⟨_, rfl, fun a H => ?_⟩
      replace hO := hO.ext_ Eb
      replace RL := RL.ext Eb
      replace E := E.tr Eb
      refine e_callq H rfl rfl (by decide) rfl rfl (Try.call33 _) (append_any va ab (fileOf ((r.records.take i).map Rcd.bytes)).length c y.bytes.length cb (fileOf ((r.records.take i).map Rcd.bytes)) y.bytes wb hO.bs hOb.bs (by omega) (by omega) (ow_cap hO) (ow_cap hOb)) ?_
      clear H a
      rintro e wc hpost
      unfold AppendPost at hpost
      rw [if_neg (by omega)] at hpost
      obtain ⟨aq, nq, cq, rfl, hO2, hnq, hBel⟩ := hpost
      refine ⟨_, rfl, fun a H => ?_⟩
      have Ec : Ext wb wc := hBel
      replace RL := RL.ext Ec
      have hszb := E.sz
      replace E := E.tr Ec
      clear hO
      refine e_op H rfl rfl (by decide) (x_move H rfl rfl) ?_
      clear H a; intro a H
      refine e_op H rfl rfl (by decide) (x_ext0 H rfl rfl) ?_
      clear H a; intro a H
      refine e_op H rfl rfl (by decide) (x_ext1 H rfl rfl) ?_
      clear H a; intro a H
      refine e_op H rfl rfl (by decide) (x_assign H rfl rfl) ?_
      clear H a; intro a H
      refine e_op H rfl rfl (by decide) (x_assign H rfl rfl) ?_
      clear H a; intro a H
      refine e_nil (hR.out _ _ ?_)
      clear hR R
      refine hK9 _ _ ?_
      clear hK9 K9
      refine wp_seq_k (fun K10 hK10 => ?_)
      refine e_region (fun R hR => ?_)
      refine e_op H rfl rfl (by decide) (x_move H rfl rfl) ?_
      clear H a; intro a H
      refine e_op H rfl rfl (by decide) (x_binI H rfl rfl rfl (b_eql (b := true) (rfl))) ?_
      clear H a; intro a H
      refine e_nil (hR.out _ _ ?_)
      clear hR R
      refine hK10 _ _ ?_
      clear hK10 K10
      refine c_true H rfl ?_
      refine e_region (fun R hR => ?_)
      refine e_op H rfl rfl (by decide) (x_move H rfl rfl) ?_
      clear H a; intro a H
      refine e_op H rfl rfl (by decide) (x_assign H rfl rfl) ?_
      clear H a; intro a H
      refine e_nil (hR.out _ _ ?_)
      clear hR R
      refine hK7 _ _ ?_
      clear hK7 K7
      refine e_region (fun R hR => ?_)
      refine e_op H rfl rfl (by decide) (x_binI H rfl rfl rfl (b_add (z := ((i + 1 : Nat) : Int)) (by rw [IntKind.wrap_i64]; omega))) ?_
      clear H a; intro a H
      refine e_op H rfl rfl (by decide) (x_move H rfl rfl) ?_
      clear H a; intro a H
      refine e_nil (hR.out _ _ ?_)
      clear hR R
      have hfs := filesB_succ r.records i y hy
      have hnl : nq = (fileOf ((r.records.take (i + 1)).map Rcd.bytes)).length := by rw [hfs, List.length_append, frameOf_len]; exact hnq
      rw [← hfs] at hO2
      subst hnl
      exact ⟨qs.length - (i + 1), by omega, i + 1, aq, cq, by omega, rfl, H.sub ⟨rfl, rfl, rfl, rfl, trivial⟩, hO2.mono hszb, RL, E⟩
    · skip
      skip
      refine wp_seq_k (fun K11 hK11 => ?_)
      refine e_region (fun R hR => ?_)
      refine e_op H rfl rfl (by decide) (x_binI H rfl rfl rfl (b_lss (b := false) (dec_f (by omega)))) ?_
      clear H a; intro a H
      refine e_nil (hR.out _ _ ?_)
      clear hR R
      refine hK11 _ _ ?_
      clear hK11 K11
      refine wp_seq_k (fun K12 hK12 => ?_)
      refine c_false H rfl ?_
      refine wp_exit ?_
      refine t_exit ?_
      refine t_exit ?_
      refine b_hit ?_
      clear hK12 K12
      refine hK3 _ _ ?_
      clear hK3 K3
      refine wp_seq_k (fun K13 hK13 => ?_)
      refine e_region (fun R hR => ?_)
      refine e_op H rfl rfl (by decide) (x_move H rfl rfl) ?_
      clear H a; intro a H
      refine e_op H rfl rfl (by decide) (x_assign H rfl rfl) ?_
      clear H a; intro a H
      refine e_nil (hR.out _ _ ?_)
      clear hR R
      refine hK13 _ _ ?_
      clear hK13 K13
      refine wp_ret ?_
      rw [List.take_of_length_le (by rw [← hqs, List.length_map]; exact Nat.le_refl _)] at H hO
      exact ret1 H rfl rfl ⟨va, c, rfl, hO, E⟩
theorem ld_88 {w : World} {g : Nat} {cs : List Value} (T : Blk w g 88 cs) (h : cs.length = 16) : (Instr.loadAt 88 (.pointer (some ⟨g, 0, none⟩))).run Try.prog w = .ok (.agg cs.toArray) w :=
  l_row T Try.underlying88 rfl (by rw [info88]; simp [h])
theorem u64s_set (ws : List Nat) (i x : Nat) : (u64s ws).set i (.int .u64 (x : Int)) = u64s (ws.set i x) := by unfold u64s; rw [List.map_set]
theorem putU_pos (v : Nat) : 1 ≤ (putU v).length := by
  by_cases h : v < 18446744073709551616
  · have := rdU_put v [] h
    exact (putF_len 10 v).1
  · exact (putF_len 10 v).1
theorem bs_lo {w : World} {a : Option Addr} {n c : Nat} {l : List UInt8} (h : Bs w a n l) (lo : Nat) (h1 : lo ≤ n) (h2 : n ≤ c) : Bs w (cutA a c lo) (n - lo) (l.drop lo) := by
  have := h.cutAt lo n c h1 (Nat.le_refl _) h2
  rw [List.take_of_length_le (by rw [List.length_drop, h.leng]; exact Nat.le_refl _)] at this
  exact this
theorem vread_any (ws : List Nat) (rest : List UInt8) (ad : Option Addr) (n c : Nat) (l : List UInt8) (w0 : World) (hb : Bs w0 ad n l) (hl : l = clkB ws ++ rest) (hc : n ≤ c) (hn : n ≤ 140737488351232) (hw16 : ws.length = 16) (hbw : ∀ x ∈ ws, x < 18446744073709551616) :
    Calls Try.prog 119 #[.slice ad n c] w0 fun e w' => e = .returned (.tuple #[.agg (u64s ws).toArray, .int .i64 (((clkB ws).length : Nat) : Int), .int .i64 0]) ∧ Ext w0 w' := by
  have hk := clen_le ws 16
  have hln := hb.leng
  have hn1 : 1 ≤ n := by rw [← hln, hl]; unfold clkB; simp
  obtain ⟨b0, o0, rfl, hcell⟩ := hb.at (by omega)
  have hb0 : w0.cell? ⟨b0, o0, none⟩ = some (.int .u8 ((clen ws 16 : Nat) : Int)) := by
    have := hcell 0 (by omega)
    rw [Nat.add_zero] at this
    rw [this, hl]
    unfold clkB nb
    simp only [List.cons_append, List.getElem?_cons_zero, Option.getD_some]
    rw [u8_ofNat _ (by omega)]
  refine calls_has (args := [.slice (some ⟨b0, o0, none⟩) n c]) Try.func119 rfl Try.ntmps119 (Nat.le_of_ble_eq_true rfl) (fun a H => ?_)
  simp only [argl, Nat.reduceAdd] at H
  refine wp_seq_k (fun K1 hK1 => ?_)
  refine e_region (fun R hR => ?_)
  refine e_op H rfl rfl (by decide) (x_alloc H rfl (al_new (z88 _))) ?_
  clear H a; intro a H
  have T2 := Blk.new w0 88 (u64s zeros16)
  have E1 := (Ext.refl w0).al (.cells (u64s zeros16).toArray 88)
  obtain ⟨g2, hg2⟩ : ∃ g, g = w0.heap.size := ⟨_, rfl⟩
  rw [← hg2] at H T2
  generalize w0.alloc (.cells (u64s zeros16).toArray 88) = w1 at *
  refine e_op H rfl rfl (by decide) (x_assign H rfl rfl) ?_
  clear H a; intro a H
  refine e_op H rfl rfl (by decide) (x_assign H rfl rfl) ?_
  clear H a; intro a H
  refine e_nil (hR.out _ _ ?_)
  clear hR R
  refine hK1 _ _ ?_
  clear hK1 K1
  refine wp_seq_k (fun K2 hK2 => ?_)
  refine wp_seq_k (fun K3 hK3 => ?_)
  refine e_region (fun R hR => ?_)
  refine e_op H rfl rfl (by decide) (x_move H rfl rfl) ?_
  clear H a; intro a H
  refine e_op H rfl rfl (by decide) (x_builtin H rfl rfl (fun cs => len_sl Try.underlying22)) ?_
  clear H a; intro a H
  refine e_op H rfl rfl (by decide) (x_binI H rfl rfl rfl (b_eql (b := false) (beq_f (by omega)))) ?_
  clear H a; intro a H
  refine e_op H rfl rfl (by decide) (x_move H rfl rfl) ?_
  clear H a; intro a H
  refine e_opg H (wanted_true H rfl rfl rfl rfl) rfl (by decide) (x_move H rfl rfl) ?_
  clear H a; intro a H
  refine e_opg H (wanted_true H rfl rfl rfl rfl) rfl (by decide) (x_indexAddr H rfl rfl rfl (i_sl (m := 0) Try.underlying22 Try.sizeOf5 rfl (by omega))) ?_
  clear H a; intro a H
  refine e_opg H (wanted_true H rfl rfl rfl rfl) rfl (by decide) (x_load H rfl rfl (l_cell Try.isAgg5 (E1.cell hb0))) ?_
  clear H a; intro a H
  refine e_opg H (wanted_true H rfl rfl rfl rfl) rfl (by decide) (x_binI H rfl rfl rfl (b_gtr (b := false) (dec_f (by omega)))) ?_
  clear H a; intro a H
  refine e_op H rfl rfl (by decide) (x_pickF H rfl rfl rfl) ?_
  clear H a; intro a H
  refine e_nil (hR.out _ _ ?_)
  clear hR R
  refine hK3 _ _ ?_
  clear hK3 K3
  refine c_false H rfl ?_
  refine wp_skip ?_
  refine hK2 _ _ ?_
  clear hK2 K2
  refine wp_seq_k (fun K4 hK4 => ?_)
  refine e_region (fun R hR => ?_)
  refine e_op H rfl rfl (by decide) (x_alloc H rfl (al_new (z88 _))) ?_
  clear H a; intro a H
  have T5 := Blk.new w1 88 (u64s zeros16)
  have hlt2 := T2.lt
  have h02 : w0.heap.size ≤ g2 := by rw [hg2]; exact Nat.le_refl _
  have h01 := E1.sz
  replace T2 := T2.alloc (.cells (u64s zeros16).toArray 88)
  have E2 := E1.al (.cells (u64s zeros16).toArray 88)
  obtain ⟨g5, hg5⟩ : ∃ g, g = w1.heap.size := ⟨_, rfl⟩
  rw [← hg5] at H T5
  generalize w1.alloc (.cells (u64s zeros16).toArray 88) = w2 at *
  have hne25 : g2 ≠ g5 := by omega
  have h05 : w0.heap.size ≤ g5 := by omega
  refine e_nil (hR.out _ _ ?_)
  clear hR R
  refine hK4 _ _ ?_
  clear hK4 K4
  refine wp_seq_k (fun K5 hK5 => ?_)
  refine e_region (fun R hR => ?_)
  refine e_op H rfl rfl (by decide) (x_move H rfl rfl) ?_
  clear H a; intro a H
  refine e_op H rfl rfl (by decide) (x_indexAddr H rfl rfl rfl (i_sl (m := 0) Try.underlying22 Try.sizeOf5 rfl (by omega))) ?_
  clear H a; intro a H
  refine e_op H rfl rfl (by decide) (x_load H rfl rfl (l_cell Try.isAgg5 (E2.cell hb0))) ?_
  clear H a; intro a H
  refine e_op H rfl rfl (by decide) (x_conv H rfl rfl (c_int (z := (((clen ws 16) : Nat) : Int)) Try.underlying5 Try.underlying3 (by rw [IntKind.wrap_i64]; omega))) ?_
  clear H a; intro a H
  refine e_op H rfl rfl (by decide) (x_assign H rfl rfl) ?_
  clear H a; intro a H
  refine e_op H rfl rfl (by decide) (x_assign H rfl rfl) ?_
  clear H a; intro a H
  refine e_nil (hR.out _ _ ?_)
  clear hR R
  refine hK5 _ _ ?_
  clear hK5 K5
  refine wp_seq_k (fun K6 hK6 => ?_)
  refine wp_seq_k (fun K7 hK7 => ?_)
  refine e_region (fun R hR => ?_)
  refine e_op H rfl rfl (by decide) (x_move H rfl rfl) ?_
  clear H a; intro a H
  refine e_op H rfl rfl (by decide) (x_move H rfl rfl) ?_
  clear H a; intro a H
  refine e_nil (hR.out _ _ ?_)
  clear hR R
  refine hK7 _ _ ?_
  clear hK7 K7
  refine wp_block ?_
  refine wp_loop_ghost (fun n_ a w => ∃ i, i ≤ clen ws 16 ∧ n_ = clen ws 16 - i ∧ Has a 56 [(0, .slice (some ⟨b0, o0, none⟩) n c), (2, .pointer (some ⟨g2, 0, none⟩)), (5, .pointer (some ⟨g5, 0, none⟩)), (6, .int .i64 (((clen ws 16) : Nat) : Int)), (7, .int .i64 ((1 + (wordsB ws i).length : Nat) : Int)), (26, .int .i64 (((clen ws 16) : Nat) : Int)), (27, .int .i64 (i : Int))] ∧ Blk w g2 88 (u64s zeros16) ∧ Blk w g5 88 (u64s (upTo ws i)) ∧ Ext w0 w) (clen ws 16) ?_ ?_
  · skip
    exact ⟨0, by omega, rfl, H.sub ⟨rfl, rfl, rfl, rfl, rfl, rfl, rfl, trivial⟩, T2, T5, E2⟩
  · skip
    clear H T2 T5
    intro n_ a w hI
    obtain ⟨i, hi, rfl, H, T2, T5, E⟩ := hI
    rcases (show i < clen ws 16 ∨ i = clen ws 16 by omega) with hlt | rfl
    · skip
      obtain ⟨r1, hr1, hr2⟩ := wordsB_full ws (clen ws 16) i (by omega) (by omega)
      obtain ⟨r3, rfl⟩ := hr2 hlt
      have hdr : l.drop (1 + (wordsB ws i).length) = putU (ws[i]?.getD 0) ++ (r3 ++ rest) := by
        rw [hl]
        unfold clkB
        rw [hr1, Nat.add_comm 1, List.cons_append, List.drop_succ_cons, List.append_assoc, List.drop_left, List.append_assoc]
      have hlen : 1 + (wordsB ws i).length + (putU (ws[i]?.getD 0)).length ≤ l.length := by
        have := congrArg List.length hdr
        rw [List.length_drop, List.length_append] at this
        have h1 : 1 ≤ l.length := by omega
        have h2 := putU_pos (ws[i]?.getD 0)
        omega
      have hbv : ws[i]?.getD 0 < 18446744073709551616 := by
        rw [List.getElem?_eq_getElem (by omega)]
        exact hbw _ (List.getElem_mem _)
      have hrd := rdU_put (ws[i]?.getD 0) (r3 ++ rest) hbv
      have huv := uvals hrd
      refine wp_seq_k (fun K8 hK8 => ?_)
      refine e_region (fun R hR => ?_)
      refine e_op H rfl rfl (by decide) (x_binI H rfl rfl rfl (b_lss (b := true) (dec_t (by omega)))) ?_
      clear H a; intro a H
      refine e_nil (hR.out _ _ ?_)
      clear hR R
      refine hK8 _ _ ?_
      clear hK8 K8
      refine wp_seq_k (fun K9 hK9 => ?_)
      refine c_true H rfl ?_
      refine wp_skip ?_
      refine hK9 _ _ ?_
      clear hK9 K9
      refine wp_seq_k (fun K10 hK10 => ?_)
      refine wp_block ?_
      refine wp_seq_k (fun K11 hK11 => ?_)
      refine e_region (fun R hR => ?_)
      refine e_op H rfl rfl (by decide) (x_move H rfl rfl) ?_
      clear H a; intro a H
      refine e_op H rfl rfl (by decide) (x_assign H rfl rfl) ?_
      clear H a; intro a H
      refine e_nil (hR.out _ _ ?_)
      clear hR R
      refine hK11 _ _ ?_
      clear hK11 K11
      refine wp_seq_k (fun K12 hK12 => ?_)
      refine e_region (fun R hR => ?_)
      refine e_op H rfl rfl (by decide) (x_move H rfl rfl) ?_
      clear H a; intro a H
      refine e_op H rfl rfl (by decide) (x_move H rfl rfl) ?_
      clear H a; intro a H
      refine e_op H rfl rfl (by decide) (x_slice H rfl rfl rfl rfl (sl_lo (lo := 1 + (wordsB ws i).length) Try.underlying22 Try.sizeOf5 rfl (by omega))) ?_
      clear H a; intro a H
      refine e_callq H rfl rfl (by decide) rfl rfl (Try.call48 _) (uint_any _ (n - (1 + (wordsB ws i).length)) _ (l.drop (1 + (wordsB ws i).length)) w (bs_lo (E.bs hb) _ (by omega) hc) (by omega)) ?_
      clear H a
      unfold UPost
      rintro e wx ⟨rfl, rfl⟩
      refine ⟨_, rfl, fun a H => ?_⟩
      rw [hdr, huv.1, huv.2.1, huv.2.2] at H
      refine e_op H rfl rfl (by decide) (x_move H rfl rfl) ?_
      clear H a; intro a H
      refine e_op H rfl rfl (by decide) (x_extract H rfl rfl (v := .int .u64 ((ws[i]?.getD 0 : Nat) : Int)) rfl) ?_
      clear H a; intro a H
      refine e_op H rfl rfl (by decide) (x_extract H rfl rfl (v := .int .i64 (((putU (ws[i]?.getD 0)).length : Nat) : Int)) rfl) ?_
      clear H a; intro a H
      refine e_op H rfl rfl (by decide) (x_extract H rfl rfl (v := .int .i64 0) rfl) ?_
      clear H a; intro a H
      refine e_op H rfl rfl (by decide) (x_assign H rfl rfl) ?_
      clear H a; intro a H
      refine e_op H rfl rfl (by decide) (x_assign H rfl rfl) ?_
      clear H a; intro a H
      refine e_op H rfl rfl (by decide) (x_assign H rfl rfl) ?_
      clear H a; intro a H
      refine e_nil (hR.out _ _ ?_)
      clear hR R
      refine hK12 _ _ ?_
      clear hK12 K12
      refine wp_seq_k (fun K13 hK13 => ?_)
      refine wp_seq_k (fun K14 hK14 => ?_)
      refine e_region (fun R hR => ?_)
      refine e_op H rfl rfl (by decide) (x_move H rfl rfl) ?_
      clear H a; intro a H
      refine e_op H rfl rfl (by decide) (x_binI H rfl rfl rfl (b_neq (b := false) (rfl))) ?_
      clear H a; intro a H
      refine e_nil (hR.out _ _ ?_)
      clear hR R
      refine hK14 _ _ ?_
      clear hK14 K14
      refine c_false H rfl ?_
      refine wp_skip ?_
      refine hK13 _ _ ?_
      clear hK13 K13
      refine wp_seq_k (fun K15 hK15 => ?_)
      refine e_region (fun R hR => ?_)
      refine e_op H rfl rfl (by decide) (x_move H rfl rfl) ?_
      clear H a; intro a H
      refine e_op H rfl rfl (by decide) (x_move H rfl rfl) ?_
      clear H a; intro a H
      refine e_op H rfl rfl (by decide) (x_fieldAddr H rfl rfl (fa88_0 _ _)) ?_
      clear H a; intro a H
      refine e_op H rfl rfl (by decide) (x_indexAddr H rfl rfl rfl (i_arr0 (m := i) under86 Try.sizeOf56 rfl (by omega))) ?_
      clear H a; intro a H
      refine e_st H rfl rfl (x_store H rfl rfl rfl (st_cell rfl rfl Try.sizeOf56 (T5.frozen _) (T5.isSome i (by rw [u64s_len, upTo_len hw16 (by omega)]; omega)))) ?_
      replace T2 := T2.far (b := g5) (o := i) hne25 (.int .u64 ((ws[i]?.getD 0 : Nat) : Int))
      replace E := E.st h05 i (.int .u64 ((ws[i]?.getD 0 : Nat) : Int))
      replace T5 := T5.set_ i (.int .u64 ((ws[i]?.getD 0 : Nat) : Int))
      rw [u64s_set, upTo_succ hw16 (by omega)] at T5
      refine e_nil (hR.out _ _ ?_)
      clear hR R
      refine hK15 _ _ ?_
      clear hK15 K15
      refine e_region (fun R hR => ?_)
      refine e_op H rfl rfl (by decide) (x_move H rfl rfl) ?_
      clear H a; intro a H
      refine e_op H rfl rfl (by decide) (x_move H rfl rfl) ?_
      clear H a; intro a H
      refine e_op H rfl rfl (by decide) (x_binI H rfl rfl rfl (b_add (z := ((1 + (wordsB ws (i + 1)).length : Nat) : Int)) (by rw [wordsB_succ ws i (by omega), List.length_append, IntKind.wrap_i64]; omega))) ?_
      clear H a; intro a H
      refine e_op H rfl rfl (by decide) (x_assign H rfl rfl) ?_
      clear H a; intro a H
      refine e_nil (hR.out _ _ ?_)
      clear hR R
      refine hK10 _ _ ?_
      clear hK10 K10
      refine e_region (fun R hR => ?_)
      refine e_op H rfl rfl (by decide) (x_binI H rfl rfl rfl (b_add (z := ((i + 1 : Nat) : Int)) (by rw [IntKind.wrap_i64]; omega))) ?_
      clear H a; intro a H
      refine e_op H rfl rfl (by decide) (x_move H rfl rfl) ?_
      clear H a; intro a H
      refine e_nil (hR.out _ _ ?_)
      clear hR R
      exact ⟨clen ws 16 - (i + 1), by omega, i + 1, by omega, rfl, H.sub ⟨rfl, rfl, rfl, rfl, rfl, rfl, rfl, trivial⟩, T2, T5, E⟩
    · skip
      rw [upTo_clen hw16] at T5
      refine wp_seq_k (fun K16 hK16 => ?_)
      refine e_region (fun R hR => ?_)
      refine e_op H rfl rfl (by decide) (x_binI H rfl rfl rfl (b_lss (b := false) (dec_f (by omega)))) ?_
      clear H a; intro a H
      refine e_nil (hR.out _ _ ?_)
      clear hR R
      refine hK16 _ _ ?_
      clear hK16 K16
      refine wp_seq_k (fun K17 hK17 => ?_)
      refine c_false H rfl ?_
      refine wp_exit ?_
      refine t_exit ?_
      refine t_exit ?_
      refine b_hit ?_
      clear hK17 K17
      refine hK6 _ _ ?_
      clear hK6 K6
      refine wp_seq_k (fun K18 hK18 => ?_)
      refine wp_seq_k (fun K19 hK19 => ?_)
      refine e_region (fun R hR => ?_)
      refine e_op H rfl rfl (by decide) (x_load H rfl rfl (ld_88 T5 (by rw [u64s_len, hw16]))) ?_
      clear H a; intro a H
      refine e_callq H rfl rfl (by decide) rfl rfl (Try.call138 _) (clen_any ws hw16 _) ?_
      clear H a
      rintro e wx ⟨rfl, Ex⟩
      refine ⟨_, rfl, fun a H => ?_⟩
      replace T2 := T2.ext Ex
      replace T5 := T5.ext Ex
      replace E := E.tr Ex
      refine e_op H rfl rfl (by decide) (x_move H rfl rfl) ?_
      clear H a; intro a H
      refine e_op H rfl rfl (by decide) (x_binI H rfl rfl rfl (b_neq (b := false) (bne_f rfl))) ?_
      clear H a; intro a H
      refine e_nil (hR.out _ _ ?_)
      clear hR R
      refine hK19 _ _ ?_
      clear hK19 K19
      refine c_false H rfl ?_
      refine wp_skip ?_
      refine hK18 _ _ ?_
      clear hK18 K18
      refine wp_seq_k (fun K20 hK20 => ?_)
      refine e_region (fun R hR => ?_)
      refine e_op H rfl rfl (by decide) (x_load H rfl rfl (ld_88 T5 (by rw [u64s_len, hw16]))) ?_
      clear H a; intro a H
      refine e_op H rfl rfl (by decide) (x_move H rfl rfl) ?_
      clear H a; intro a H
      refine e_st H rfl rfl (x_store H rfl rfl rfl (st_row T2 (by rw [info88]; simp [u64s_len, hw16]) (by simp [u64s_len, hw16, zeros16]) (by rw [Array.all_eq_true']; intro z hz; obtain ⟨q, _, rfl⟩ := List.mem_map.1 (by simpa [u64s] using hz); rfl))) ?_
      refine e_op H rfl rfl (by decide) (x_assign H rfl rfl) ?_
      clear H a; intro a H
      refine e_op H rfl rfl (by decide) (x_assign H rfl rfl) ?_
      clear H a; intro a H
      refine e_nil (hR.out _ _ ?_)
      clear hR R
      refine hK20 _ _ ?_
      clear hK20 K20
      refine wp_ret ?_
      exact retctt H rfl rfl rfl rfl (setRow_heap _ _ _ _ 88 (0, 0) T2) Try.underlying88 rfl (by rw [info88]; simp [u64s_len, hw16]) ⟨by unfold clkB; rw [List.length_cons, Nat.add_comm], E.row_ h02 _⟩
end Go.Proofs.Ytknllmcpogoeoaa
