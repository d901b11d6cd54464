/- rootcauselaw26.records, walked. -/
import Derived.Test.YtknllmcpogoeoaaR13
import Derived.Test.YtknllmcpogoeoaaK5
namespace Go.Proofs.Ytknllmcpogoeoaa
open Go.RowKit
set_option linter.unusedVariables false
set_option linter.unusedSimpArgs false
set_option maxRecDepth 100000
def plCells (comp first : Nat) (pv : Value) : List Value := [.int .u8 (comp : Int), .int .u32 (first : Int), pv]
theorem fa80_0 (b : Nat) (w : World) : (Instr.fieldAt 80 (.pointer (some ⟨b, 0, none⟩)) 0).run Try.prog w = .ok (.pointer (some ⟨b, 0, none⟩)) w := by kernel_rfl
theorem fa80_1 (b : Nat) (w : World) : (Instr.fieldAt 80 (.pointer (some ⟨b, 0, none⟩)) 1).run Try.prog w = .ok (.pointer (some ⟨b, 1, none⟩)) w := by kernel_rfl
theorem fa80_2 (b : Nat) (w : World) : (Instr.fieldAt 80 (.pointer (some ⟨b, 0, none⟩)) 2).run Try.prog w = .ok (.pointer (some ⟨b, 2, none⟩)) w := by kernel_rfl
theorem fa193_0 (b : Nat) (w : World) : (Instr.fieldAt 193 (.pointer (some ⟨b, 0, none⟩)) 0).run Try.prog w = .ok (.pointer (some ⟨b, 0, none⟩)) w := by kernel_rfl
theorem fa193_1 (b : Nat) (w : World) : (Instr.fieldAt 193 (.pointer (some ⟨b, 0, none⟩)) 1).run Try.prog w = .ok (.pointer (some ⟨b, 1, none⟩)) w := by kernel_rfl
theorem fa193_2 (b : Nat) (w : World) : (Instr.fieldAt 193 (.pointer (some ⟨b, 0, none⟩)) 2).run Try.prog w = .ok (.pointer (some ⟨b, 2, none⟩)) w := by kernel_rfl
theorem fa193_3 (b : Nat) (w : World) : (Instr.fieldAt 193 (.pointer (some ⟨b, 0, none⟩)) 3).run Try.prog w = .ok (.pointer (some ⟨b, 3, none⟩)) w := by kernel_rfl
theorem fa193_4 (b : Nat) (w : World) : (Instr.fieldAt 193 (.pointer (some ⟨b, 0, none⟩)) 4).run Try.prog w = .ok (.pointer (some ⟨b, 4, none⟩)) w := by kernel_rfl
theorem fa193_5 (b : Nat) (w : World) : (Instr.fieldAt 193 (.pointer (some ⟨b, 0, none⟩)) 5).run Try.prog w = .ok (.pointer (some ⟨b, 5, none⟩)) w := by kernel_rfl
theorem fa93y (b : Nat) (w : World) : (Instr.fieldAt 93 (.pointer (some ⟨b, 19, none⟩)) 1).run Try.prog w = .ok (.pointer (some ⟨b, 20, none⟩)) w := by kernel_rfl
theorem under78 : Try.prog.underlying 78 = some (.slice 193) := by kernel_rfl
theorem isAgg193 (w : World) : (isAgg 193).run Try.prog w = .ok true w := by kernel_rfl
theorem size193 (w : World) : (sizeOf 193).run Try.prog w = .ok 6 w := by kernel_rfl
def zero193 : List Value := [.int .u8 0, .bool false, .int .u16 0, .bool false, .bool false, .int .i64 0]
theorem z193 (w : World) : (zeroValue 193).run Try.prog w = .ok (.agg zero193.toArray) w := by rw [Try.zeroValue193]; rfl
theorem bldrec (m nx : Nat) (w : World) : (Instr.build 95 #[(0, .int .i64 (m : Int)), (1, .int .u64 (nx : Int)), (3, .int .u8 1)]).run Try.prog w = .ok (.agg ((⟨(m : Int), nx, zeros16, 1, evt0, 0⟩ : Rcd).cells (.slice none 0 0)).toArray) w := by kernel_rfl
theorem bldev (k m : Nat) (long : Int) (w : World) : (Instr.build 93 #[(0, .int .i64 (k : Int)), (1, .int .i64 (m : Int)), (2, .int .u8 4), (7, .int .i64 long)]).run Try.prog w = .ok (.agg ((⟨(k : Int), (m : Int), 4, 0, 0, 0, 0, long, []⟩ : Evt).cells (.slice none 0 0)).toArray) w := by kernel_rfl
theorem bi_max {P : Program} {w : World} {ts : Array TypeId} {ty : TypeId} {cs : Array Bool} {k k' : IntKind} {x y z : Int} (h : (if y > x then y else x) = z) : (builtin .max ts ty cs #[.int k x, .int k' y]).run P w = .ok (.value (.int k z)) w := by
  subst h
  simp only [builtin, Sem.run_bind, run_max_int2, Result.andThen_ok, Sem.run_pure]
/-- a part of a block written anew -/
theorem st_part {P : Program} {w : World} {g off t t' : Nat} {old cs : List Value} (hg : Blk w g t' old) (hs : ∀ w, (sizeOf t).run P w = .ok cs.length w) (hfit : off + cs.length ≤ old.length) (h1 : ∀ v ∈ cs, v.oneCell' = true) :
    (Instr.storeAt t (.pointer (some ⟨g, off, none⟩)) (.agg cs.toArray)).run P w = .ok () (w.setRow g (old.take off ++ cs ++ old.drop (off + cs.length)).toArray) := by
  have h := run_storeCells_at P g off t' cs 0 old.toArray w hg (by simpa using hfit) h1
  simp only [Nat.add_zero] at h
  simp only [Instr.storeAt, Instr.sureAddr, Sem.run_bind, Sem.run_pure, Result.andThen_ok, storeVar, hs, Value.cells]
  simp [h]
theorem cells_20 (x : Rcd) (u : Value) (z : Int) (h16 : x.words.length = 16) : (x.cells u).set 20 (.int .i64 z) = ({ x with ev := { x.ev with comp := z } } : Rcd).cells u := by
  unfold Rcd.cells Evt.cells
  rw [List.set_append_left _ _ (by simp [h16]), List.set_append_right _ _ (by simp [h16])]
  simp [h16]
/-- the state of a round: since the world wq, a step and a record have been laid -/
structure St (wq w : World) (g6 g7 : Nat) (s : RStep) (X : Rcd) (u : Value) : Prop where
  e : Ext wq w
  b6 : Blk w g6 193 s.cells
  b7 : Blk w g7 95 (X.cells u)
  z : Zw w wq.heap.size u X.ev.args
  n7 : wq.heap.size ≤ g7
  ne6 : g6 ≠ g7
  w16 : X.words.length = 16
section
variable {wq w w' : World} {g6 g7 : Nat} {s : RStep} {X : Rcd} {u : Value}
theorem St.ext (h : St wq w g6 g7 s X u) (E : Ext w w') : St wq w' g6 g7 s X u := ⟨h.e.tr E, h.b6.ext E, h.b7.ext E, h.z.ext E, h.n7, h.ne6, h.w16⟩
theorem St.set (h : St wq w g6 g7 s X u) (o : Nat) (val : Value) (X' : Rcd) (hc : (X.cells u).set o val = X'.cells u) (ha : X'.ev.args = X.ev.args) (hw : X'.words = X.words) : St wq (w.setCell ⟨g7, o, none⟩ val) g6 g7 s X' u :=
  ⟨h.e.st h.n7 o val, h.b6.far h.ne6 val, by rw [← hc]; exact h.b7.set_ o val, by rw [ha]; exact h.z.set h.b7 (by decide) o val, h.n7, h.ne6, by rw [hw]; exact h.w16⟩
theorem St.rowS (h : St wq w g6 g7 s X u) (ds : List Value) (X' : Rcd) (u' : Value) (hd : ds = X'.cells u') (hz : Zw w wq.heap.size u' X'.ev.args) (hw : X'.words.length = 16) : St wq (w.setRow g7 ds.toArray) g6 g7 s X' u' :=
  ⟨h.e.row_ h.n7 _, h.b6.grown (grown_setRow w g7 _) (by simpa using h.ne6), by rw [← hd]; exact h.b7.row ds, hz.row h.b7 (by decide) _, h.n7, h.ne6, hw⟩
theorem St.isS (h : St wq w g6 g7 s X u) (o : Nat) (ho : o < 29) : (w.cell? ⟨g7, o, none⟩).isSome = true := h.b7.isSome o (by rw [Rcd.cells_len _ _ h.w16]; exact ho)
theorem St.push {ua : Option Addr} {n uc : Nat} (h : St wq w g6 g7 s X (.slice ua n uc)) (z : Int) (hl : n ≤ 1000) : ∃ g' c' w', (Builtin.append_ #[91, 91] 91 #[.slice ua n uc, .slice (some ⟨w.heap.size, 0, none⟩) 1 1]).run Try.prog (w.alloc (.cells #[.int .i64 z] 2)) = .ok (.slice (some ⟨g', 0, none⟩) (n + 1) c') w' ∧
    w'.frozen? ⟨g7, 27, none⟩ = false ∧ (w'.cell? ⟨g7, 27, none⟩).isSome = true ∧ St wq (w'.setCell ⟨g7, 27, none⟩ (.slice (some ⟨g', 0, none⟩) (n + 1) c')) g6 g7 s { X with ev := { X.ev with args := X.ev.args ++ [z] } } (.slice (some ⟨g', 0, none⟩) (n + 1) c') := by
  have h1 := h.ext ((Ext.refl w).al (.cells #[.int .i64 z] 2))
  have hn : X.ev.args.length = n := by
    obtain ⟨a', c', e, _⟩ := (Sr.of h.z.1).shape
    simp only [Value.slice.injEq] at e
    exact e.2.1.symm
  have hrow := h1.z.1
  rw [hn] at hrow
  obtain ⟨g', c', w', hr, ho, hG⟩ := run_appE el91 (w.alloc (.cells #[.int .i64 z] 2)) 91 wq.heap.size ua n uc (i64s X.ev.args) w.heap.size 1 1 [.int .i64 z] hrow rfl (news_new w [.int .i64 z] 2) (by intro u hu; rw [List.mem_singleton.1 hu]; rfl) (by omega) (by omega) h1.e.sz (by omega)
  have hne7 : some g7 ≠ (Value.slice ua n uc).ownBlock := own_blk_ne hrow h1.b7 (by decide)
  have hne6 : some g6 ≠ (Value.slice ua n uc).ownBlock := own_blk_ne hrow h1.b6 (by decide)
  have b7 := h1.b7.grown hG hne7
  have b6 := h1.b6.grown hG hne6
  have E := h1.e.grown hG (fun k hk => ((Sr.of hrow).blk k hk).1)
  have hz : Zw w' wq.heap.size (.slice (some ⟨g', 0, none⟩) (n + 1) c') (X.ev.args ++ [z]) := by
    refine ⟨?_, by rw [List.length_append, hn]; simp; omega⟩
    rw [List.length_append, hn, show i64s (X.ev.args ++ [z]) = i64s X.ev.args ++ [.int .i64 z] by simp [i64s]]
    exact ho
  refine ⟨g', c', w', hr, b7.frozen _, b7.isSome 27 (by rw [Rcd.cells_len _ _ h.w16]; omega), ⟨E.st h.n7 27 _, b6.far h.ne6 _, ?_, hz.set b7 (by decide) 27 _, h.n7, h.ne6, h.w16⟩⟩
  have := b7.set_ 27 (.slice (some ⟨g', 0, none⟩) (n + 1) c')
  rwa [cells_set _ _ _ h.w16] at this
end
theorem base_idx (comp k nx : Nat) (s : RStep) : (baseOf comp k nx s).idx = nx := by unfold baseOf; split <;> rfl
theorem base_era (comp k nx : Nat) (s : RStep) : (baseOf comp k nx s).era = (comp : Int) := by unfold baseOf; split <;> rfl
theorem base_words (comp k nx : Nat) (s : RStep) : (baseOf comp k nx s).words = zeros16 := by unfold baseOf; split <;> rfl
theorem base_lost (comp k nx : Nat) (s : RStep) : (baseOf comp k nx s).lost = if s.lost then 1 + s.count % 50 else 0 := by unfold baseOf; split <;> rfl
theorem base_behind (comp k nx : Nat) (s : RStep) : behind nx s = nx + (if s.skip then 2 else 0) + (baseOf comp k nx s).step := by
  unfold behind Rcd.step
  rw [base_lost]
  cases s.skip <;> cases s.lost <;> simp <;> omega
theorem max_step (x : Rcd) : (if (1 : Int) > (x.lost : Int) then (1 : Int) else (x.lost : Int)) = ((x.step : Nat) : Int) := by
  unfold Rcd.step
  split <;> omega
theorem base_step50 (comp k nx : Nat) (s : RStep) : (baseOf comp k nx s).step ≤ 50 := by
  unfold Rcd.step
  rw [base_lost]
  have : s.count % 50 < 50 := Nat.mod_lt _ (by omega)
  split <;> omega
theorem skip_era (s : RStep) (x : Rcd) : (skipOf s x).era = x.era := by unfold skipOf; split <;> rfl
theorem skip_words (s : RStep) (x : Rcd) : (skipOf s x).words = x.words := by unfold skipOf; split <;> rfl
theorem rec_ok (comp k nx : Nat) (s : RStep) (hc : comp < 8) (hk : k < 40) (hn : nx < 18446744073709551000) (hs : s.ok) : (recOf comp k nx s).ok := by
  have hb := (base_fine comp k nx s hc hk hn hs).1.ok
  have he := base_era comp k nx s
  have h1 : (skipOf s (baseOf comp k nx s)).ok := by
    unfold skipOf
    split
    · exact ⟨hb.era, Nat.mod_lt _ (by omega), hb.words, hb.w64, hb.what, hb.ev, hb.lost⟩
    · exact hb
  have he1 : (skipOf s (baseOf comp k nx s)).era = (comp : Int) := by rw [skip_era, he]
  unfold recOf otherOf
  split
  · refine ⟨by simp only; omega, h1.idx, h1.words, h1.w64, h1.what, ⟨h1.ev.a, ?_, h1.ev.kind, h1.ev.c, h1.ev.d, h1.ev.e, h1.ev.f, h1.ev.g, h1.ev.args⟩, h1.lost⟩
    simp only
    split <;> omega
  · exact h1
set_option maxHeartbeats 1600000 in
theorem recordsP_any (comp first : Nat) (pa : Option Addr) (len pc : Nat) (ss : List RStep) (w0 : World) (hr : Rt w0 pa len ss) (hc : comp ≤ 255) (hf : first ≤ 4294967295) : Calls Try.prog 89 #[.agg (plCells comp first (.slice pa len pc)).toArray] w0 fun e w' =>
    ∃ v' qs, e = .returned v' ∧ Rl w' w0.heap.size v' qs ∧ qs.map (·.1) = recordsOf comp first ss ∧ Ext w0 w' := by
  refine calls_has (args := [.agg (plCells comp first (.slice pa len pc)).toArray]) Try.func89 rfl Try.ntmps89 (Nat.le_of_ble_eq_true rfl) (fun a H => ?_)
  simp only [argl, Nat.reduceAdd] at H
  refine wp_seq_k (fun K1 hK1 => ?_)
  refine e_region (fun R hR => ?_)
  refine e_op H rfl rfl (by decide) (x_box H rfl rfl bx_new) ?_
  clear H a; intro a H
  have B1 := Blk.new w0 80 (plCells comp first (.slice pa len pc))
  have E1 := (Ext.refl w0).al (.cells (plCells comp first (.slice pa len pc)).toArray 80)
  obtain ⟨g1, hg1⟩ : ∃ g, g = w0.heap.size := ⟨_, rfl⟩
  rw [← hg1] at H B1
  generalize w0.alloc (.cells (plCells comp first (.slice pa len pc)).toArray 80) = w1 at *
  refine e_op H rfl rfl (by decide) (x_assign H rfl rfl) ?_
  clear H a; intro a H
  refine e_nil (hR.out _ _ ?_)
  clear hR R
  refine hK1 _ _ ?_
  clear hK1 K1
  refine wp_seq_k (fun K2 hK2 => ?_)
  refine e_region (fun R hR => ?_)
  refine e_op H rfl rfl (by decide) (x_assign H rfl rfl) ?_
  clear H a; intro a H
  refine e_nil (hR.out _ _ ?_)
  clear hR R
  refine hK2 _ _ ?_
  clear hK2 K2
  refine wp_seq_k (fun K3 hK3 => ?_)
  refine e_region (fun R hR => ?_)
  refine e_op H rfl rfl (by decide) (x_fieldAddr H rfl rfl (fa80_1 _ _)) ?_
  clear H a; intro a H
  refine e_op H rfl rfl (by decide) (x_load H rfl rfl (l_cell Try.isAgg52 (B1.at_ (i := 1) rfl))) ?_
  clear H a; intro a H
  refine e_op H rfl rfl (by decide) (x_conv H rfl rfl (c_int (z := ((first : Nat) : Int)) Try.underlying52 Try.underlying56 (by rw [IntKind.wrap_u64]; omega))) ?_
  clear H a; intro a H
  refine e_op H rfl rfl (by decide) (x_assign H rfl rfl) ?_
  clear H a; intro a H
  refine e_nil (hR.out _ _ ?_)
  clear hR R
  refine hK3 _ _ ?_
  clear hK3 K3
  refine wp_seq_k (fun K4 hK4 => ?_)
  refine wp_seq_k (fun K5 hK5 => ?_)
  refine e_region (fun R hR => ?_)
  refine e_op H rfl rfl (by decide) (x_assign H rfl rfl) ?_
  clear H a; intro a H
  refine e_nil (hR.out _ _ ?_)
  clear hR R
  refine hK5 _ _ ?_
  clear hK5 K5
  refine wp_block ?_
  refine wp_loop_ghost (fun n a w => ∃ i va c qs, i ≤ 40 ∧ n = 40 - i ∧ i ≤ len ∧ qs.map (·.1) = recsFrom (comp % 8) 0 first (ss.take i) ∧ qs.length ≤ i ∧ Has a 109 [(1, .pointer (some ⟨g1, 0, none⟩)), (3, .slice va qs.length c), (4, .int .u64 (((ss.take i).foldl behind first : Nat) : Int)), (5, .int .i64 (i : Int))] ∧ Rl w w0.heap.size (.slice va qs.length c) qs ∧ Ext w0 w ∧ Blk w g1 80 (plCells comp first (.slice pa len pc))) (40) ?_ ?_
  · skip
    exact ⟨0, none, 0, [], by omega, rfl, by omega, rfl, Nat.le_refl _, H.sub ⟨rfl, rfl, rfl, rfl, trivial⟩, Rl.nil _ _, E1, B1⟩
  · skip
    clear H E1
    intro n a wq hI
    clear B1
    obtain ⟨i, va, c, qs, hi, rfl, hil, hqs, hql, H, RL, E, B1⟩ := hI
    rcases (show (i < len ∧ i < 40) ∨ i = len ∨ (i < len ∧ i = 40) by omega) with ⟨hlt, h40⟩ | rfl | ⟨hlt, rfl⟩
    · skip
      obtain ⟨s, hsi⟩ : ∃ s, ss[i]? = some s := ⟨_, List.getElem?_eq_getElem (by rw [hr.leng]; exact hlt)⟩
      obtain ⟨hso, bb, ob, hpa, hcs⟩ := (hr.ext E).cell i s hsi
      subst hpa
      have hcnt := hso.2.1
      have hlen := hr.leng
      have hso1 := hso.1
      have hso3 := hso.2.2
      obtain ⟨nx, hnx⟩ : ∃ nx, nx = (ss.take i).foldl behind first := ⟨_, rfl⟩
      rw [← hnx] at H
      have hnb := behind_le (ss.take i) first
      rw [← hnx, List.length_take] at hnb
      have hnb2 : nx ≤ 4294970000 := by omega
      have B0 := B1
      refine wp_seq_k (fun K6 hK6 => ?_)
      refine wp_seq_k (fun K7 hK7 => ?_)
      refine e_region (fun R hR => ?_)
      refine e_op H rfl rfl (by decide) (x_move H rfl rfl) ?_
      clear H a; intro a H
      refine e_op H rfl rfl (by decide) (x_fieldAddr H rfl rfl (fa80_2 _ _)) ?_
      clear H a; intro a H
      refine e_op H rfl rfl (by decide) (x_load H rfl rfl (l_cell Try.isAgg78 (B1.at_ (i := 2) rfl))) ?_
      clear H a; intro a H
      refine e_op H rfl rfl (by decide) (x_builtin H rfl rfl (fun cs => len_sl under78)) ?_
      clear H a; intro a H
      refine e_op H rfl rfl (by decide) (x_binI H rfl rfl rfl (b_lss (b := true) (dec_t (by omega)))) ?_
      clear H a; intro a H
      refine e_op H rfl rfl (by decide) (x_move H rfl rfl) ?_
      clear H a; intro a H
      refine e_opg H (wanted_true H rfl rfl rfl rfl) rfl (by decide) (x_move H rfl rfl) ?_
      clear H a; intro a H
      refine e_opg H (wanted_true H rfl rfl rfl rfl) rfl (by decide) (x_binI H rfl rfl rfl (b_lss (b := true) (dec_t (by omega)))) ?_
      clear H a; intro a H
      refine e_op H rfl rfl (by decide) (x_pickT H rfl rfl rfl) ?_
      clear H a; intro a H
      refine e_nil (hR.out _ _ ?_)
      clear hR R
      refine hK7 _ _ ?_
      clear hK7 K7
      refine c_true H rfl ?_
      refine wp_skip ?_
      refine hK6 _ _ ?_
      clear hK6 K6
      refine wp_seq_k (fun K8 hK8 => ?_)
      refine wp_block ?_
      refine wp_seq_k (fun K9 hK9 => ?_)
      refine e_region (fun R hR => ?_)
      refine e_op H rfl rfl (by decide) (x_fieldAddr H rfl rfl (fa80_2 _ _)) ?_
      clear H a; intro a H
      refine e_op H rfl rfl (by decide) (x_load H rfl rfl (l_cell Try.isAgg78 (B1.at_ (i := 2) rfl))) ?_
      clear H a; intro a H
      refine e_op H rfl rfl (by decide) (x_move H rfl rfl) ?_
      clear H a; intro a H
      refine e_op H rfl rfl (by decide) (x_indexAddr H rfl rfl rfl (i_slN (m := i) under78 size193 rfl hlt)) ?_
      clear H a; intro a H
      refine e_op H rfl rfl (by decide) (x_load H rfl rfl (l_part (cs := s.cells) isAgg193 size193 hcs)) ?_
      clear H a; intro a H
      refine e_op H rfl rfl (by decide) (x_alloc H rfl (al_new (z193 _))) ?_
      clear H a; intro a H
      have D6 := Blk.new wq 193 zero193
      have Ea := (Ext.refl wq).al (.cells zero193.toArray 193)
      obtain ⟨g6, hg6⟩ : ∃ g, g = wq.heap.size := ⟨_, rfl⟩
      rw [← hg6] at H D6
      generalize wq.alloc (.cells zero193.toArray 193) = wa at *
      refine e_st H rfl rfl (x_store H rfl rfl rfl (st_row D6 (by kernel_rfl) (by rfl) (by simp [Value.oneCell', RStep.cells]))) ?_
      replace D6 := D6.row s.cells
      replace Ea := Ea.row_ (by omega : wq.heap.size ≤ g6) s.cells.toArray
      generalize wa.setRow g6 s.cells.toArray = wb at *
      refine e_nil (hR.out _ _ ?_)
      clear hR R
      refine hK9 _ _ ?_
      clear hK9 K9
      refine wp_seq_k (fun K10 hK10 => ?_)
      refine e_region (fun R hR => ?_)
      replace B1 := B1.ext Ea
      refine e_op H rfl rfl (by decide) (x_fieldAddr H rfl rfl (fa80_0 _ _)) ?_
      clear H a; intro a H
      refine e_op H rfl rfl (by decide) (x_load H rfl rfl (l_cell Try.isAgg5 (B1.at_ (i := 0) rfl))) ?_
      clear H a; intro a H
      refine e_op H rfl rfl (by decide) (x_binI H rfl rfl rfl (b_rem (z := ((comp % 8 : Nat) : Int)) (by decide) (by rw [Int.tmod_eq_emod_of_nonneg (by omega)]; omega))) ?_
      clear H a; intro a H
      refine e_op H rfl rfl (by decide) (x_conv H rfl rfl (c_int (z := ((comp % 8 : Nat) : Int)) Try.underlying5 Try.underlying3 (by rw [IntKind.wrap_i64]; omega))) ?_
      clear H a; intro a H
      refine e_op H rfl rfl (by decide) (x_move H rfl rfl) ?_
      clear H a; intro a H
      refine e_op H rfl rfl (by decide) (x_build H rfl rfl (bldrec _ _ _)) ?_
      clear H a; intro a H
      refine e_op H rfl rfl (by decide) (x_alloc H rfl (al_new (z95 _))) ?_
      clear H a; intro a H
      have D7 := Blk.new wb 95 zero95
      have D6l := D6.lt
      replace D6 := D6.alloc (.cells zero95.toArray 95)
      replace Ea := Ea.al (.cells zero95.toArray 95)
      obtain ⟨g7, hg7⟩ : ∃ g, g = wb.heap.size := ⟨_, rfl⟩
      rw [← hg7] at H D7
      generalize wb.alloc (.cells zero95.toArray 95) = wc at *
      refine e_st H rfl rfl (x_store H rfl rfl rfl (st_row D7 (by kernel_rfl) (by rfl) (by simp [Value.oneCell', Rcd.cells, Evt.cells, zeros16]))) ?_
      have hn7 : wq.heap.size ≤ g7 := by omega
      have hne : g6 ≠ g7 := by omega
      have hSt : St wq (wc.setRow g7 ((⟨((comp % 8 : Nat) : Int), nx, zeros16, 1, evt0, 0⟩ : Rcd).cells (.slice none 0 0)).toArray) g6 g7 s (⟨((comp % 8 : Nat) : Int), nx, zeros16, 1, evt0, 0⟩ : Rcd) (.slice none 0 0) := ⟨Ea.row_ hn7 _, D6.grown (grown_setRow wc g7 _) (by simpa using hne), D7.row _, (Zw.nil wc _).row D7 (by decide) _, hn7, hne, by simp [zeros16]⟩
      clear Ea D6 D7 B1
      generalize wc.setRow g7 ((⟨((comp % 8 : Nat) : Int), nx, zeros16, 1, evt0, 0⟩ : Rcd).cells (.slice none 0 0)).toArray = wd at *
      refine e_nil (hR.out _ _ ?_)
      clear hR R
      refine hK10 _ _ ?_
      clear hK10 K10
      refine wp_seq_k (fun K11 hK11 => ?_)
      refine wp_seq_k (fun K12 hK12 => ?_)
      refine e_region (fun R hR => ?_)
      refine e_op H rfl rfl (by decide) (x_fieldAddr H rfl rfl (fa193_1 _ _)) ?_
      clear H a; intro a H
      refine e_op H rfl rfl (by decide) (x_load H rfl rfl (l_cell Try.isAgg4 (hSt.b6.at_ (i := 1) rfl))) ?_
      clear H a; intro a H
      refine e_nil (hR.out _ _ ?_)
      clear hR R
      refine hK12 _ _ ?_
      clear hK12 K12
      refine Code.wp_mono (Q := fun e a w => e = Exit.normal ∧ ∃ u, Has a 109 [(1, .pointer (some ⟨g1, 0, none⟩)), (3, .slice va qs.length c), (4, .int .u64 ((nx : Nat) : Int)), (5, .int .i64 (i : Int)), (6, .pointer (some ⟨g6, 0, none⟩)), (7, .pointer (some ⟨g7, 0, none⟩))] ∧ St wq w g6 g7 s (baseOf (comp % 8) i nx s) u) (fun e a w hM => ?_) ?_
      · skip
        clear H hSt
        obtain ⟨rfl, u, H, hSt⟩ := hM
        refine hK11 _ _ ?_
        clear hK11 K11
        refine wp_seq_k (fun K13 hK13 => ?_)
        refine e_region (fun R hR => ?_)
        have hst50 := base_step50 (comp % 8) i nx s
        refine e_op H rfl rfl (by decide) (x_move H rfl rfl) ?_
        clear H a; intro a H
        refine e_op H rfl rfl (by decide) (x_fieldAddr H rfl rfl (fa95_5 _ _)) ?_
        clear H a; intro a H
        refine e_op H rfl rfl (by decide) (x_load H rfl rfl (l_cell Try.isAgg56 (hSt.b7.at_ (rc_lost hSt.w16)))) ?_
        clear H a; intro a H
        refine e_op H rfl rfl (by decide) (x_builtin H rfl rfl (fun cs => bi_max (z := (((baseOf (comp % 8) i nx s).step : Nat) : Int)) (max_step (baseOf (comp % 8) i nx s)))) ?_
        clear H a; intro a H
        refine e_op H rfl rfl (by decide) (x_binI H rfl rfl rfl (b_add (z := ((nx + (baseOf (comp % 8) i nx s).step : Nat) : Int)) (by rw [IntKind.wrap_u64]; omega))) ?_
        clear H a; intro a H
        refine e_op H rfl rfl (by decide) (x_assign H rfl rfl) ?_
        clear H a; intro a H
        refine e_nil (hR.out _ _ ?_)
        clear hR R
        refine hK13 _ _ ?_
        clear hK13 K13
        refine wp_seq_k (fun K14 hK14 => ?_)
        refine wp_seq_k (fun K15 hK15 => ?_)
        refine e_region (fun R hR => ?_)
        refine e_op H rfl rfl (by decide) (x_fieldAddr H rfl rfl (fa193_3 _ _)) ?_
        clear H a; intro a H
        refine e_op H rfl rfl (by decide) (x_load H rfl rfl (l_cell Try.isAgg4 (hSt.b6.at_ (i := 3) rfl))) ?_
        clear H a; intro a H
        refine e_nil (hR.out _ _ ?_)
        clear hR R
        refine hK15 _ _ ?_
        clear hK15 K15
        refine Code.wp_mono (Q := fun e a w => e = Exit.normal ∧ ∃ u, Has a 109 [(1, .pointer (some ⟨g1, 0, none⟩)), (3, .slice va qs.length c), (4, .int .u64 ((behind nx s : Nat) : Int)), (5, .int .i64 (i : Int)), (6, .pointer (some ⟨g6, 0, none⟩)), (7, .pointer (some ⟨g7, 0, none⟩))] ∧ St wq w g6 g7 s (skipOf s (baseOf (comp % 8) i nx s)) u) (fun e a w hM => ?_) ?_
        · skip
          clear H hSt
          obtain ⟨rfl, u, H, hSt⟩ := hM
          refine hK14 _ _ ?_
          clear hK14 K14
          refine wp_seq_k (fun K16 hK16 => ?_)
          refine wp_seq_k (fun K17 hK17 => ?_)
          refine e_region (fun R hR => ?_)
          have herx : (skipOf s (baseOf (comp % 8) i nx s)).era = ((comp % 8 : Nat) : Int) := by rw [skip_era, base_era]
          obtain ⟨XS, hXS⟩ : ∃ x, x = (skipOf s (baseOf (comp % 8) i nx s)) := ⟨_, rfl⟩
          have hrec : recOf (comp % 8) i nx s = otherOf s XS := by rw [hXS]; rfl
          rw [← hXS] at hSt herx
          refine e_op H rfl rfl (by decide) (x_fieldAddr H rfl rfl (fa193_4 _ _)) ?_
          clear H a; intro a H
          refine e_op H rfl rfl (by decide) (x_load H rfl rfl (l_cell Try.isAgg4 (hSt.b6.at_ (i := 4) rfl))) ?_
          clear H a; intro a H
          refine e_nil (hR.out _ _ ?_)
          clear hR R
          refine hK17 _ _ ?_
          clear hK17 K17
          refine Code.wp_mono (Q := fun e a w => e = Exit.normal ∧ ∃ u, Has a 109 [(1, .pointer (some ⟨g1, 0, none⟩)), (3, .slice va qs.length c), (4, .int .u64 ((behind nx s : Nat) : Int)), (5, .int .i64 (i : Int)), (6, .pointer (some ⟨g6, 0, none⟩)), (7, .pointer (some ⟨g7, 0, none⟩))] ∧ St wq w g6 g7 s (recOf (comp % 8) i nx s) u) (fun e a w hM => ?_) ?_
          · skip
            clear H hSt
            obtain ⟨rfl, u, H, hSt⟩ := hM
            refine hK16 _ _ ?_
            clear hK16 K16
            refine e_region (fun R hR => ?_)
            have hrok : (recOf (comp % 8) i nx s).ok := rec_ok (comp % 8) i nx s (by omega) (by omega) (by omega) hso
            obtain ⟨ua, uc, rfl, _⟩ := (Sr.of hSt.z.1).shape
            have RL1 := RL.ext hSt.e
            refine e_op H rfl rfl (by decide) (x_move H rfl rfl) ?_
            clear H a; intro a H
            refine e_op H rfl rfl (by decide) (x_load H rfl rfl (ld_rec hSt.b7 hSt.w16)) ?_
            clear H a; intro a H
            refine e_op H rfl rfl (by decide) (x_buildSlice H rfl rfl (bs84 _ ua _ uc hSt.w16 _)) ?_
            clear H a; intro a H
            have Ef := (Ext.refl w).al (.cells ((recOf (comp % 8) i nx s).cells (.slice ua (recOf (comp % 8) i nx s).ev.args.length uc)).toArray 95)
            have Db := Blk.new w 95 ((recOf (comp % 8) i nx s).cells (.slice ua (recOf (comp % 8) i nx s).ev.args.length uc))
            have hE2 := (E.tr hSt.e).tr Ef
            obtain ⟨gr, og, cr, wh, hrr, RLg, Gg, hgr⟩ := Rl.app el84 (by decide) (RL1.ext Ef) 84 w.heap.size 1 (recOf (comp % 8) i nx s) _ hrok ((hSt.z.mono E.sz).ext Ef) Db (cells_one _ ua _ uc) (by omega) hE2.sz
            have hE3 : Ext w0 wh := hE2.grown Gg (fun k hk => (RL1.row.blk k hk).1)
            refine e_op H rfl rfl (by decide) (x_builtin H rfl rfl (fun cs => bi_app hrr)) ?_
            clear H a; intro a H
            refine e_op H rfl rfl (by decide) (x_assign H rfl rfl) ?_
            clear H a; intro a H
            refine e_nil (hR.out _ _ ?_)
            clear hR R
            refine hK8 _ _ ?_
            clear hK8 K8
            refine e_region (fun R hR => ?_)
            refine e_op H rfl rfl (by decide) (x_move H rfl rfl) ?_
            clear H a; intro a H
            refine e_op H rfl rfl (by decide) (x_binI H rfl rfl rfl (b_add (z := ((i + 1 : Nat) : Int)) (by rw [IntKind.wrap_i64]; omega))) ?_
            clear H a; intro a H
            refine e_op H rfl rfl (by decide) (x_assign H rfl rfl) ?_
            clear H a; intro a H
            refine e_nil (hR.out _ _ ?_)
            clear hR R
            refine ⟨40 - (i + 1), by omega, i + 1, some ⟨gr, og, none⟩, cr, qs ++ [(recOf (comp % 8) i nx s, _)], by omega, rfl, by omega, ?_, by simp; omega, ?_, (by rw [List.length_append]; exact RLg), hE3, ?_⟩
            · rw [List.map_append, hqs, List.take_add_one, hsi, Option.toList_some, recsFrom_app, Nat.zero_add, List.length_take, Nat.min_eq_left (by omega), hnx]; rfl
            · rw [List.length_append, List.take_add_one, hsi, Option.toList_some, List.foldl_append, ← hnx]
              exact H.sub ⟨rfl, rfl, rfl, rfl, trivial⟩
            · exact (B0.ext hSt.e).ext Ef |>.grown Gg (fun e => by have := (RL.row.blk g1 e.symm).2.2; obtain ⟨cur, hc⟩ := this; unfold Blk at B0; rw [B0] at hc; simp at hc)
          · skip
            by_cases hot : s.other = true
            · skip
              rw [hot] at H
              refine c_true H rfl ?_
              refine wp_seq_k (fun K18 hK18 => ?_)
              refine e_region (fun R hR => ?_)
              refine e_op H rfl rfl (by decide) (x_fieldAddr H rfl rfl (fa95_0 _ _)) ?_
              clear H a; intro a H
              refine e_op H rfl rfl (by decide) (x_load H rfl rfl (l_cell Try.isAgg3 (hSt.b7.at_ (i := 0) rfl))) ?_
              clear H a; intro a H
              refine e_op H rfl rfl (by decide) (x_binI H rfl rfl rfl (b_add (z := (XS.era + 1)) (by rw [IntKind.wrap_i64]; omega))) ?_
              clear H a; intro a H
              refine e_op H rfl rfl (by decide) (x_binI H rfl rfl rfl (b_rem (z := ((XS.era + 1) % 8)) (by decide) (Int.tmod_eq_emod_of_nonneg (by omega)))) ?_
              clear H a; intro a H
              refine e_op H rfl rfl (by decide) (x_fieldAddr H rfl rfl (fa95_0 _ _)) ?_
              clear H a; intro a H
              refine e_st H rfl rfl (x_store H rfl rfl rfl (st_cell rfl rfl Try.sizeOf3 (hSt.b7.frozen _) (hSt.isS 0 (by omega)))) ?_
              replace hSt := hSt.set 0 (.int .i64 ((XS.era + 1) % 8)) { XS with era := (XS.era + 1) % 8 } rfl rfl rfl
              generalize w.setCell ⟨g7, 0, none⟩ (.int .i64 ((XS.era + 1) % 8)) = we at *
              refine e_nil (hR.out _ _ ?_)
              clear hR R
              refine hK18 _ _ ?_
              clear hK18 K18
              refine wp_seq_k (fun K19 hK19 => ?_)
              refine e_region (fun R hR => ?_)
              refine e_op H rfl rfl (by decide) (x_fieldAddr H rfl rfl (fa95_4 _ _)) ?_
              clear H a; intro a H
              refine e_op H rfl rfl (by decide) (x_fieldAddr H rfl rfl (fa93y _ _)) ?_
              clear H a; intro a H
              refine e_st H rfl rfl (x_store H rfl rfl rfl (st_cell rfl rfl Try.sizeOf3 (hSt.b7.frozen _) (hSt.isS 20 (by omega)))) ?_
              replace hSt := hSt.set 20 (.int .i64 0) { XS with era := (XS.era + 1) % 8, ev := { XS.ev with comp := 0 } } (cells_20 _ _ _ hSt.w16) rfl rfl
              generalize we.setCell ⟨g7, 20, none⟩ (.int .i64 0) = wf at *
              refine e_nil (hR.out _ _ ?_)
              clear hR R
              refine hK19 _ _ ?_
              clear hK19 K19
              refine wp_seq_k (fun K20 hK20 => ?_)
              refine e_region (fun R hR => ?_)
              refine e_op H rfl rfl (by decide) (x_fieldAddr H rfl rfl (fa95_3 _ _)) ?_
              clear H a; intro a H
              refine e_op H rfl rfl (by decide) (x_load H rfl rfl (l_cell Try.isAgg89 (hSt.b7.at_ (rc_what hSt.w16)))) ?_
              clear H a; intro a H
              refine e_op H rfl rfl (by decide) (x_binI H rfl rfl rfl (b_eql rfl)) ?_
              clear H a; intro a H
              refine e_nil (hR.out _ _ ?_)
              clear hR R
              refine hK20 _ _ ?_
              clear hK20 K20
              refine c_split H rfl (fun ht => ?_) (fun ht => ?_)
              · skip
                refine e_region (fun R hR => ?_)
                refine e_op H rfl rfl (by decide) (x_fieldAddr H rfl rfl (fa95_0 _ _)) ?_
                clear H a; intro a H
                refine e_op H rfl rfl (by decide) (x_load H rfl rfl (l_cell Try.isAgg3 (hSt.b7.at_ (i := 0) rfl))) ?_
                clear H a; intro a H
                refine e_op H rfl rfl (by decide) (x_fieldAddr H rfl rfl (fa95_4 _ _)) ?_
                clear H a; intro a H
                refine e_op H rfl rfl (by decide) (x_fieldAddr H rfl rfl (fa93y _ _)) ?_
                clear H a; intro a H
                refine e_st H rfl rfl (x_store H rfl rfl rfl (st_cell rfl rfl Try.sizeOf3 (hSt.b7.frozen _) (hSt.isS 20 (by omega)))) ?_
                replace hSt := hSt.set 20 (.int .i64 ((XS.era + 1) % 8)) { XS with era := (XS.era + 1) % 8, ev := { XS.ev with comp := (XS.era + 1) % 8 } } (cells_20 _ _ _ hSt.w16) rfl rfl
                generalize wf.setCell ⟨g7, 20, none⟩ (.int .i64 ((XS.era + 1) % 8)) = wg at *
                rw [show ({ XS with era := (XS.era + 1) % 8, ev := { XS.ev with comp := (XS.era + 1) % 8 } } : Rcd) = recOf (comp % 8) i nx s by rw [hrec]; unfold otherOf; rw [if_pos hot, if_pos (by simp at ht; omega)]] at hSt
                refine e_nil (hR.out _ _ ?_)
                clear hR R
                exact ⟨rfl, _, H.sub ⟨rfl, rfl, rfl, rfl, rfl, rfl, trivial⟩, hSt⟩
              · skip
                rw [show ({ XS with era := (XS.era + 1) % 8, ev := { XS.ev with comp := 0 } } : Rcd) = recOf (comp % 8) i nx s by rw [hrec]; unfold otherOf; rw [if_pos hot, if_neg (by simp at ht; omega)]] at hSt
                refine wp_skip ?_
                exact ⟨rfl, _, H.sub ⟨rfl, rfl, rfl, rfl, rfl, rfl, trivial⟩, hSt⟩
            · skip
              rw [show s.other = false by simpa using hot] at H
              refine c_false H rfl ?_
              refine wp_skip ?_
              rw [show XS = recOf (comp % 8) i nx s by rw [hrec]; unfold otherOf; rw [if_neg hot]] at hSt
              exact ⟨rfl, _, H.sub ⟨rfl, rfl, rfl, rfl, rfl, rfl, trivial⟩, hSt⟩
        · skip
          by_cases hsk : s.skip = true
          · skip
            rw [hsk] at H
            refine c_true H rfl ?_
            refine wp_seq_k (fun K21 hK21 => ?_)
            refine e_region (fun R hR => ?_)
            refine e_op H rfl rfl (by decide) (x_fieldAddr H rfl rfl (fa95_1 _ _)) ?_
            clear H a; intro a H
            refine e_op H rfl rfl (by decide) (x_load H rfl rfl (l_cell Try.isAgg56 (hSt.b7.at_ (i := 1) rfl))) ?_
            clear H a; intro a H
            refine e_op H rfl rfl (by decide) (x_binI H rfl rfl rfl (b_add (z := ((((baseOf (comp % 8) i nx s).idx + 2) % 18446744073709551616 : Nat) : Int)) (by rw [IntKind.wrap_u64]; omega))) ?_
            clear H a; intro a H
            refine e_op H rfl rfl (by decide) (x_fieldAddr H rfl rfl (fa95_1 _ _)) ?_
            clear H a; intro a H
            refine e_st H rfl rfl (x_store H rfl rfl rfl (st_cell rfl rfl Try.sizeOf56 (hSt.b7.frozen _) (hSt.isS 1 (by omega)))) ?_
            replace hSt := hSt.set 1 (.int .u64 ((((baseOf (comp % 8) i nx s).idx + 2) % 18446744073709551616 : Nat) : Int)) { (baseOf (comp % 8) i nx s) with idx := ((baseOf (comp % 8) i nx s).idx + 2) % 18446744073709551616 } rfl rfl rfl
            generalize w.setCell ⟨g7, 1, none⟩ (.int .u64 ((((baseOf (comp % 8) i nx s).idx + 2) % 18446744073709551616 : Nat) : Int)) = we at *
            refine e_nil (hR.out _ _ ?_)
            clear hR R
            refine hK21 _ _ ?_
            clear hK21 K21
            refine e_region (fun R hR => ?_)
            refine e_op H rfl rfl (by decide) (x_fieldAddr H rfl rfl (fa95_1 _ _)) ?_
            clear H a; intro a H
            refine e_op H rfl rfl (by decide) (x_load H rfl rfl (l_cell Try.isAgg56 (show _ = some (.int .u64 ((((baseOf (comp % 8) i nx s).idx + 2) % 18446744073709551616 : Nat) : Int)) from hSt.b7.at_ (i := 1) rfl))) ?_
            clear H a; intro a H
            refine e_op H rfl rfl (by decide) (x_fieldAddr H rfl rfl (fa95_5 _ _)) ?_
            clear H a; intro a H
            refine e_op H rfl rfl (by decide) (x_load H rfl rfl (l_cell Try.isAgg56 (hSt.b7.at_ (rc_lost hSt.w16)))) ?_
            clear H a; intro a H
            refine e_op H rfl rfl (by decide) (x_builtin H rfl rfl (fun cs => bi_max (z := (((baseOf (comp % 8) i nx s).step : Nat) : Int)) (max_step (baseOf (comp % 8) i nx s)))) ?_
            clear H a; intro a H
            refine e_op H rfl rfl (by decide) (x_binI H rfl rfl rfl (b_add (z := ((behind nx s : Nat) : Int)) (by rw [IntKind.wrap_u64, base_behind (comp % 8) i nx s, if_pos hsk, base_idx]; omega))) ?_
            clear H a; intro a H
            refine e_op H rfl rfl (by decide) (x_assign H rfl rfl) ?_
            clear H a; intro a H
            refine e_nil (hR.out _ _ ?_)
            clear hR R
            rw [show ({ (baseOf (comp % 8) i nx s) with idx := ((baseOf (comp % 8) i nx s).idx + 2) % 18446744073709551616 } : Rcd) = (skipOf s (baseOf (comp % 8) i nx s)) by unfold skipOf; rw [if_pos hsk]] at hSt
            exact ⟨rfl, _, H.sub ⟨rfl, rfl, rfl, rfl, rfl, rfl, trivial⟩, hSt⟩
          · skip
            rw [show s.skip = false by simpa using hsk, show nx + (baseOf (comp % 8) i nx s).step = behind nx s by rw [base_behind (comp % 8) i nx s, if_neg hsk]; omega] at H
            refine c_false H rfl ?_
            refine wp_skip ?_
            rw [show (baseOf (comp % 8) i nx s) = (skipOf s (baseOf (comp % 8) i nx s)) by unfold skipOf; rw [if_neg hsk]] at hSt
            exact ⟨rfl, _, H.sub ⟨rfl, rfl, rfl, rfl, rfl, rfl, trivial⟩, hSt⟩
      · skip
        by_cases hl : s.lost = true
        · skip
          rw [hl] at H
          refine c_true H rfl ?_
          obtain ⟨we, hwe⟩ : ∃ wx, wx = wd.drew := ⟨_, rfl⟩
          have Ewe : Ext wd we := by rw [hwe]; exact (Ext.refl _).dr
          replace hSt := hSt.ext Ewe
          have hSt0 := hSt
          have FSq := Frm.refl [g7] we
          refine g_start (fun w' => Frm [g7] we w') (by kernel_rfl) (fun R hR => ?_)
          rw [← hwe]
          refine g_take 0 H rfl (wanted_none rfl) rfl (by decide) (by kernel_rfl) (by kernel_rfl) (by kernel_rfl) FSq (fun w' hSw => (x_fieldAddr H rfl rfl (fa193_2 _ _))) ?_
          clear H a; intro a H
          refine g_take 1 H rfl (wanted_none rfl) rfl (by decide) (by kernel_rfl) (by kernel_rfl) (by kernel_rfl) FSq (fun w' hSw => (x_load H rfl rfl (l_cell Try.isAgg47 ((hSt0.b6.frm hSw (by simpa using hSt0.ne6)).at_ (i := 2) rfl)))) ?_
          clear H a; intro a H
          refine g_take 2 H rfl (wanted_none rfl) rfl (by decide) (by kernel_rfl) (by kernel_rfl) (by kernel_rfl) FSq (fun w' hSw => (x_binI H rfl rfl rfl (b_rem (z := ((s.count % 50 : Nat) : Int)) (by decide) (by rw [Int.tmod_eq_emod_of_nonneg (by omega)]; omega)))) ?_
          clear H a; intro a H
          refine g_take 3 H rfl (wanted_none rfl) rfl (by decide) (by kernel_rfl) (by kernel_rfl) (by kernel_rfl) FSq (fun w' hSw => (x_conv H rfl rfl (c_int (z := ((s.count % 50 : Nat) : Int)) Try.underlying47 Try.underlying56 (by rw [IntKind.wrap_u64]; omega)))) ?_
          clear H a; intro a H
          refine g_take 4 H rfl (wanted_none rfl) rfl (by decide) (by kernel_rfl) (by kernel_rfl) (by kernel_rfl) FSq (fun w' hSw => (x_binI H rfl rfl rfl (b_add (z := ((1 + s.count % 50 : Nat) : Int)) (by rw [IntKind.wrap_u64]; omega)))) ?_
          clear H a; intro a H
          refine g_take 5 H rfl (wanted_none rfl) rfl (by decide) (by kernel_rfl) (by kernel_rfl) (by kernel_rfl) FSq (fun w' hSw => (x_fieldAddr H rfl rfl (fa95_3 _ _))) ?_
          clear H a; intro a H
          refine g_st 6 H rfl (by kernel_rfl) (wanted_none rfl) rfl (x_store H rfl rfl rfl (st_cell rfl rfl Try.sizeOf89 (hSt.b7.frozen _) (hSt.isS 18 (by omega)))) (FSq.st g7 18 _ (.inl (by simp))) ?_
          replace FSq := FSq.st g7 18 (.int .u8 2) (.inl (by simp))
          replace hSt := hSt.set 18 (.int .u8 2) (⟨((comp % 8 : Nat) : Int), nx, zeros16, 2, evt0, 0⟩ : Rcd) rfl rfl rfl
          generalize we.setCell ⟨g7, 18, none⟩ (.int .u8 2) = wf at *
          refine g_take 7 H rfl (wanted_none rfl) rfl (by decide) (by kernel_rfl) (by kernel_rfl) (by kernel_rfl) FSq (fun w' hSw => (x_fieldAddr H rfl rfl (fa95_5 _ _))) ?_
          clear H a; intro a H
          refine g_st 8 H rfl (by kernel_rfl) (wanted_none rfl) rfl (x_store H rfl rfl rfl (st_cell rfl rfl Try.sizeOf56 (hSt.b7.frozen _) (hSt.isS 28 (by omega)))) (FSq.st g7 28 _ (.inl (by simp))) ?_
          replace FSq := FSq.st g7 28 (.int .u64 ((1 + s.count % 50 : Nat) : Int)) (.inl (by simp))
          replace hSt := hSt.set 28 (.int .u64 ((1 + s.count % 50 : Nat) : Int)) (⟨((comp % 8 : Nat) : Int), nx, zeros16, 2, evt0, 1 + s.count % 50⟩ : Rcd) rfl rfl rfl
          generalize wf.setCell ⟨g7, 28, none⟩ (.int .u64 ((1 + s.count % 50 : Nat) : Int)) = wg at *
          refine g_done (by kernel_rfl) (hR.out _ _ ?_)
          clear hR R
          rw [show (⟨((comp % 8 : Nat) : Int), nx, zeros16, 2, evt0, 1 + s.count % 50⟩ : Rcd) = (baseOf (comp % 8) i nx s) by unfold baseOf; rw [if_pos hl]] at hSt
          exact ⟨rfl, _, H.sub ⟨rfl, rfl, rfl, rfl, rfl, rfl, trivial⟩, hSt⟩
        · skip
          rw [show s.lost = false by simpa using hl] at H
          refine c_false H rfl ?_
          refine wp_seq_k (fun K22 hK22 => ?_)
          refine e_region (fun R hR => ?_)
          refine e_op H rfl rfl (by decide) (x_move H rfl rfl) ?_
          clear H a; intro a H
          refine e_op H rfl rfl (by decide) (x_fieldAddr H rfl rfl (fa95_0 _ _)) ?_
          clear H a; intro a H
          refine e_op H rfl rfl (by decide) (x_load H rfl rfl (l_cell Try.isAgg3 (hSt.b7.at_ (i := 0) rfl))) ?_
          clear H a; intro a H
          refine e_op H rfl rfl (by decide) (x_fieldAddr H rfl rfl (fa193_5 _ _)) ?_
          clear H a; intro a H
          refine e_op H rfl rfl (by decide) (x_load H rfl rfl (l_cell Try.isAgg2 (hSt.b6.at_ (i := 5) rfl))) ?_
          clear H a; intro a H
          refine e_op H rfl rfl (by decide) (x_build H rfl rfl (bldev _ _ _ _)) ?_
          clear H a; intro a H
          refine e_op H rfl rfl (by decide) (x_fieldAddr H rfl rfl (fa95_4 _ _)) ?_
          clear H a; intro a H
          refine e_st H rfl rfl (x_store H rfl rfl rfl (st_part hSt.b7 size93 (Nat.le_of_ble_eq_true rfl) (by intro v hv; unfold Evt.cells at hv; simp only [List.mem_cons, List.not_mem_nil, or_false] at hv; rcases hv with h | h | h | h | h | h | h | h | h <;> rw [h] <;> rfl))) ?_
          replace hSt := hSt.rowS (((⟨((comp % 8 : Nat) : Int), nx, zeros16, 1, evt0, 0⟩ : Rcd).cells (.slice none 0 0)).take 19 ++ (⟨(i : Int), ((comp % 8 : Nat) : Int), 4, 0, 0, 0, 0, s.long, []⟩ : Evt).cells (.slice none 0 0) ++ ((⟨((comp % 8 : Nat) : Int), nx, zeros16, 1, evt0, 0⟩ : Rcd).cells (.slice none 0 0)).drop (19 + ((⟨(i : Int), ((comp % 8 : Nat) : Int), 4, 0, 0, 0, 0, s.long, []⟩ : Evt).cells (.slice none 0 0)).length)) (⟨((comp % 8 : Nat) : Int), nx, zeros16, 1, (⟨(i : Int), ((comp % 8 : Nat) : Int), 4, 0, 0, 0, 0, s.long, []⟩ : Evt), 0⟩ : Rcd) (.slice none 0 0) rfl (Zw.nil _ _) (by simp [zeros16])
          generalize wd.setRow g7 (((⟨((comp % 8 : Nat) : Int), nx, zeros16, 1, evt0, 0⟩ : Rcd).cells (.slice none 0 0)).take 19 ++ (⟨(i : Int), ((comp % 8 : Nat) : Int), 4, 0, 0, 0, 0, s.long, []⟩ : Evt).cells (.slice none 0 0) ++ ((⟨((comp % 8 : Nat) : Int), nx, zeros16, 1, evt0, 0⟩ : Rcd).cells (.slice none 0 0)).drop (19 + ((⟨(i : Int), ((comp % 8 : Nat) : Int), 4, 0, 0, 0, 0, s.long, []⟩ : Evt).cells (.slice none 0 0)).length)).toArray = we at *
          refine e_nil (hR.out _ _ ?_)
          clear hR R
          refine hK22 _ _ ?_
          clear hK22 K22
          refine wp_seq_k (fun K23 hK23 => ?_)
          refine e_region (fun R hR => ?_)
          refine e_op H rfl rfl (by decide) (x_build H rfl rfl (bld88 _)) ?_
          clear H a; intro a H
          refine e_op H rfl rfl (by decide) (x_fieldAddr H rfl rfl (fa95_2 _ _)) ?_
          clear H a; intro a H
          refine e_st H rfl rfl (x_store H rfl rfl rfl (st_part hSt.b7 size88 (Nat.le_of_ble_eq_true rfl) (by intro v hv; unfold u64s at hv; obtain ⟨y, _, rfl⟩ := List.mem_map.1 hv; rfl))) ?_
          replace hSt := hSt.rowS (((⟨((comp % 8 : Nat) : Int), nx, zeros16, 1, (⟨(i : Int), ((comp % 8 : Nat) : Int), 4, 0, 0, 0, 0, s.long, []⟩ : Evt), 0⟩ : Rcd).cells (.slice none 0 0)).take 2 ++ u64s zeros16 ++ ((⟨((comp % 8 : Nat) : Int), nx, zeros16, 1, (⟨(i : Int), ((comp % 8 : Nat) : Int), 4, 0, 0, 0, 0, s.long, []⟩ : Evt), 0⟩ : Rcd).cells (.slice none 0 0)).drop (2 + (u64s zeros16).length)) (⟨((comp % 8 : Nat) : Int), nx, zeros16, 1, (⟨(i : Int), ((comp % 8 : Nat) : Int), 4, 0, 0, 0, 0, s.long, []⟩ : Evt), 0⟩ : Rcd) (.slice none 0 0) rfl (Zw.nil _ _) (by simp [zeros16])
          generalize we.setRow g7 (((⟨((comp % 8 : Nat) : Int), nx, zeros16, 1, (⟨(i : Int), ((comp % 8 : Nat) : Int), 4, 0, 0, 0, 0, s.long, []⟩ : Evt), 0⟩ : Rcd).cells (.slice none 0 0)).take 2 ++ u64s zeros16 ++ ((⟨((comp % 8 : Nat) : Int), nx, zeros16, 1, (⟨(i : Int), ((comp % 8 : Nat) : Int), 4, 0, 0, 0, 0, s.long, []⟩ : Evt), 0⟩ : Rcd).cells (.slice none 0 0)).drop (2 + (u64s zeros16).length)).toArray = wf at *
          refine e_nil (hR.out _ _ ?_)
          clear hR R
          refine hK23 _ _ ?_
          clear hK23 K23
          refine wp_seq_k (fun K24 hK24 => ?_)
          refine e_region (fun R hR => ?_)
          refine e_op H rfl rfl (by decide) (x_fieldAddr H rfl rfl (fa193_0 _ _)) ?_
          clear H a; intro a H
          refine e_op H rfl rfl (by decide) (x_load H rfl rfl (l_cell Try.isAgg5 (hSt.b6.at_ (i := 0) rfl))) ?_
          clear H a; intro a H
          refine e_op H rfl rfl (by decide) (x_binI H rfl rfl rfl (b_rem (z := ((s.args % 5 : Nat) : Int)) (by decide) (by rw [Int.tmod_eq_emod_of_nonneg (by omega)]; omega))) ?_
          clear H a; intro a H
          refine e_op H rfl rfl (by decide) (x_move H rfl rfl) ?_
          clear H a; intro a H
          refine e_nil (hR.out _ _ ?_)
          clear hR R
          refine hK24 _ _ ?_
          clear hK24 K24
          refine wp_block ?_
          refine wp_loop_ghost (fun n a w => ∃ j u, j ≤ s.args % 5 ∧ n = s.args % 5 - j ∧ Has a 109 [(1, .pointer (some ⟨g1, 0, none⟩)), (3, .slice va qs.length c), (4, .int .u64 ((nx : Nat) : Int)), (5, .int .i64 (i : Int)), (6, .pointer (some ⟨g6, 0, none⟩)), (7, .pointer (some ⟨g7, 0, none⟩)), (54, .int .u8 ((s.args % 5 : Nat) : Int)), (55, .int .u8 (j : Int))] ∧ St wq w g6 g7 s (⟨((comp % 8 : Nat) : Int), nx, zeros16, 1, (⟨(i : Int), ((comp % 8 : Nat) : Int), 4, 0, 0, 0, 0, s.long, (argsOf s.long j)⟩ : Evt), 0⟩ : Rcd) u) (s.args % 5) ?_ ?_
          · skip
            exact ⟨0, _, by omega, rfl, H.sub ⟨rfl, rfl, rfl, rfl, rfl, rfl, rfl, rfl, trivial⟩, hSt⟩
          · skip
            clear H hSt
            intro n a w hI
            obtain ⟨j, u, hj, rfl, H, hSt⟩ := hI
            have hm5 : s.args % 5 < 5 := Nat.mod_lt _ (by omega)
            obtain ⟨ua, uc, rfl, _⟩ := (Sr.of hSt.z.1).shape
            simp only at H hSt
            rcases (show j < s.args % 5 ∨ j = s.args % 5 by omega) with hltj | rfl
            · skip
              have hal : (argsOf s.long j).length = j := by simp [argsOf]
              rw [hal] at hSt
              refine wp_seq_k (fun K25 hK25 => ?_)
              refine e_region (fun R hR => ?_)
              refine e_op H rfl rfl (by decide) (x_binI H rfl rfl rfl (b_lss (b := true) (dec_t (by omega)))) ?_
              clear H a; intro a H
              refine e_nil (hR.out _ _ ?_)
              clear hR R
              refine hK25 _ _ ?_
              clear hK25 K25
              refine wp_seq_k (fun K26 hK26 => ?_)
              refine c_true H rfl ?_
              refine wp_skip ?_
              refine hK26 _ _ ?_
              clear hK26 K26
              refine wp_seq_k (fun K27 hK27 => ?_)
              refine wp_block ?_
              refine wp_seq_k (fun K28 hK28 => ?_)
              refine e_region (fun R hR => ?_)
              refine e_op H rfl rfl (by decide) (x_move H rfl rfl) ?_
              clear H a; intro a H
              refine e_op H rfl rfl (by decide) (x_assign H rfl rfl) ?_
              clear H a; intro a H
              refine e_nil (hR.out _ _ ?_)
              clear hR R
              refine hK28 _ _ ?_
              clear hK28 K28
              refine e_region (fun R hR => ?_)
              refine e_op H rfl rfl (by decide) (x_fieldAddr H rfl rfl (fa95_4 _ _)) ?_
              clear H a; intro a H
              refine e_op H rfl rfl (by decide) (x_fieldAddr H rfl rfl (fa93x _ _)) ?_
              clear H a; intro a H
              refine e_op H rfl rfl (by decide) (x_load H rfl rfl (l_cell Try.isAgg91 (hSt.b7.at_ (rc_ev hSt.w16 8 _ rfl)))) ?_
              clear H a; intro a H
              refine e_op H rfl rfl (by decide) (x_fieldAddr H rfl rfl (fa193_5 _ _)) ?_
              clear H a; intro a H
              refine e_op H rfl rfl (by decide) (x_load H rfl rfl (l_cell Try.isAgg2 (hSt.b6.at_ (i := 5) rfl))) ?_
              clear H a; intro a H
              refine e_op H rfl rfl (by decide) (x_move H rfl rfl) ?_
              clear H a; intro a H
              refine e_op H rfl rfl (by decide) (x_conv H rfl rfl (c_int (z := ((j : Nat) : Int)) Try.underlying5 Try.underlying2 (by rw [IntKind.wrap_i64]; omega))) ?_
              clear H a; intro a H
              refine e_op H rfl rfl (by decide) (x_binI H rfl rfl rfl (b_add (z := (IntKind.i64.wrap (s.long + (j : Int)))) (rfl))) ?_
              clear H a; intro a H
              refine e_op H rfl rfl (by decide) (x_buildSlice H rfl rfl (bs91 _ _)) ?_
              clear H a; intro a H
              obtain ⟨gn, cn, wn, hrn, hfn, hsn, hSn⟩ := hSt.push (IntKind.i64.wrap (s.long + (j : Int))) (by omega)
              refine e_op H rfl rfl (by decide) (x_builtin H rfl rfl (fun cs => bi_app hrn)) ?_
              clear H a; intro a H
              refine e_op H rfl rfl (by decide) (x_fieldAddr H rfl rfl (fa95_4 _ _)) ?_
              clear H a; intro a H
              refine e_op H rfl rfl (by decide) (x_fieldAddr H rfl rfl (fa93x _ _)) ?_
              clear H a; intro a H
              refine e_st H rfl rfl (x_store H rfl rfl rfl (st_cell rfl rfl Try.sizeOf91 (hfn) (hsn))) ?_
              refine e_nil (hR.out _ _ ?_)
              clear hR R
              refine hK27 _ _ ?_
              clear hK27 K27
              refine e_region (fun R hR => ?_)
              refine e_op H rfl rfl (by decide) (x_binI H rfl rfl rfl (b_add (z := ((j + 1 : Nat) : Int)) (by rw [IntKind.wrap_u8]; omega))) ?_
              clear H a; intro a H
              refine e_op H rfl rfl (by decide) (x_move H rfl rfl) ?_
              clear H a; intro a H
              refine e_nil (hR.out _ _ ?_)
              clear hR R
              refine ⟨s.args % 5 - (j + 1), by omega, j + 1, .slice (some ⟨gn, 0, none⟩) (j + 1) cn, by omega, rfl, H.sub ⟨rfl, rfl, rfl, rfl, rfl, rfl, rfl, rfl, trivial⟩, ?_⟩
              rw [show argsOf s.long (j + 1) = argsOf s.long j ++ [IntKind.i64.wrap (s.long + (j : Int))] by unfold argsOf; rw [List.range_succ]; simp]
              exact hSn
            · skip
              skip
              refine wp_seq_k (fun K29 hK29 => ?_)
              refine e_region (fun R hR => ?_)
              refine e_op H rfl rfl (by decide) (x_binI H rfl rfl rfl (b_lss (b := false) (dec_f (by omega)))) ?_
              clear H a; intro a H
              refine e_nil (hR.out _ _ ?_)
              clear hR R
              refine hK29 _ _ ?_
              clear hK29 K29
              refine wp_seq_k (fun K30 hK30 => ?_)
              refine c_false H rfl ?_
              refine wp_exit ?_
              refine t_exit ?_
              refine t_exit ?_
              refine b_hit ?_
              clear hK30 K30
              rw [show (⟨((comp % 8 : Nat) : Int), nx, zeros16, 1, (⟨(i : Int), ((comp % 8 : Nat) : Int), 4, 0, 0, 0, 0, s.long, (argsOf s.long (s.args % 5))⟩ : Evt), 0⟩ : Rcd) = (baseOf (comp % 8) i nx s) by unfold baseOf; rw [if_neg hl]] at hSt
              exact ⟨rfl, _, H.sub ⟨rfl, rfl, rfl, rfl, rfl, rfl, trivial⟩, hSt⟩
    · skip
      skip
      refine wp_seq_k (fun K31 hK31 => ?_)
      refine wp_seq_k (fun K32 hK32 => ?_)
      refine e_region (fun R hR => ?_)
      refine e_op H rfl rfl (by decide) (x_move H rfl rfl) ?_
      clear H a; intro a H
      refine e_op H rfl rfl (by decide) (x_fieldAddr H rfl rfl (fa80_2 _ _)) ?_
      clear H a; intro a H
      refine e_op H rfl rfl (by decide) (x_load H rfl rfl (l_cell Try.isAgg78 (B1.at_ (i := 2) rfl))) ?_
      clear H a; intro a H
      refine e_op H rfl rfl (by decide) (x_builtin H rfl rfl (fun cs => len_sl under78)) ?_
      clear H a; intro a H
      refine e_op H rfl rfl (by decide) (x_binI H rfl rfl rfl (b_lss (b := false) (dec_f (by omega)))) ?_
      clear H a; intro a H
      refine e_op H rfl rfl (by decide) (x_move H rfl rfl) ?_
      clear H a; intro a H
      refine e_skip H (wanted_false H rfl rfl rfl rfl) rfl (by decide) ?_
      clear H a; intro a H
      refine e_skip H (wanted_false H rfl rfl rfl rfl) rfl (by decide) ?_
      clear H a; intro a H
      refine e_op H rfl rfl (by decide) (x_pickF H rfl rfl rfl) ?_
      clear H a; intro a H
      refine e_nil (hR.out _ _ ?_)
      clear hR R
      refine hK32 _ _ ?_
      clear hK32 K32
      refine c_false H rfl ?_
      refine wp_exit ?_
      refine t_exit ?_
      refine t_exit ?_
      refine b_hit ?_
      clear hK31 K31
      refine hK4 _ _ ?_
      clear hK4 K4
      refine wp_seq_k (fun K33 hK33 => ?_)
      refine e_region (fun R hR => ?_)
      refine e_op H rfl rfl (by decide) (x_move H rfl rfl) ?_
      clear H a; intro a H
      refine e_op H rfl rfl (by decide) (x_assign H rfl rfl) ?_
      clear H a; intro a H
      refine e_nil (hR.out _ _ ?_)
      clear hR R
      refine hK33 _ _ ?_
      clear hK33 K33
      refine wp_ret ?_
      refine ret1 H rfl rfl ⟨_, qs, rfl, RL, ?_, E⟩
      rw [hqs]
      unfold recordsOf
      rw [List.take_of_length_le (by rw [hr.leng]; exact Nat.le_refl _), List.take_of_length_le (by rw [hr.leng]; exact hi)]
    · skip
      skip
      refine wp_seq_k (fun K34 hK34 => ?_)
      refine wp_seq_k (fun K35 hK35 => ?_)
      refine e_region (fun R hR => ?_)
      refine e_op H rfl rfl (by decide) (x_move H rfl rfl) ?_
      clear H a; intro a H
      refine e_op H rfl rfl (by decide) (x_fieldAddr H rfl rfl (fa80_2 _ _)) ?_
      clear H a; intro a H
      refine e_op H rfl rfl (by decide) (x_load H rfl rfl (l_cell Try.isAgg78 (B1.at_ (i := 2) rfl))) ?_
      clear H a; intro a H
      refine e_op H rfl rfl (by decide) (x_builtin H rfl rfl (fun cs => len_sl under78)) ?_
      clear H a; intro a H
      refine e_op H rfl rfl (by decide) (x_binI H rfl rfl rfl (b_lss (b := true) (dec_t (by omega)))) ?_
      clear H a; intro a H
      refine e_op H rfl rfl (by decide) (x_move H rfl rfl) ?_
      clear H a; intro a H
      refine e_opg H (wanted_true H rfl rfl rfl rfl) rfl (by decide) (x_move H rfl rfl) ?_
      clear H a; intro a H
      refine e_opg H (wanted_true H rfl rfl rfl rfl) rfl (by decide) (x_binI H rfl rfl rfl (b_lss (b := false) (dec_f (by omega)))) ?_
      clear H a; intro a H
      refine e_op H rfl rfl (by decide) (x_pickT H rfl rfl rfl) ?_
      clear H a; intro a H
      refine e_nil (hR.out _ _ ?_)
      clear hR R
      refine hK35 _ _ ?_
      clear hK35 K35
      refine c_false H rfl ?_
      refine wp_exit ?_
      refine t_exit ?_
      refine t_exit ?_
      refine b_hit ?_
      clear hK34 K34
      refine hK4 _ _ ?_
      clear hK4 K4
      refine wp_seq_k (fun K36 hK36 => ?_)
      refine e_region (fun R hR => ?_)
      refine e_op H rfl rfl (by decide) (x_move H rfl rfl) ?_
      clear H a; intro a H
      refine e_op H rfl rfl (by decide) (x_assign H rfl rfl) ?_
      clear H a; intro a H
      refine e_nil (hR.out _ _ ?_)
      clear hR R
      refine hK36 _ _ ?_
      clear hK36 K36
      refine wp_ret ?_
      refine ret1 H rfl rfl ⟨_, qs, rfl, RL, ?_, E⟩
      rw [hqs]
      rfl
end Go.Proofs.Ytknllmcpogoeoaa
