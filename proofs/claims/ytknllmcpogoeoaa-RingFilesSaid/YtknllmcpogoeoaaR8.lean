/- Two clocks compared; a bare record; a record checked: walked. -/
import Derived.Test.YtknllmcpogoeoaaRq
namespace Go.Proofs.Ytknllmcpogoeoaa
open Go.RowKit
set_option linter.unusedVariables false
set_option linter.unusedSimpArgs false
set_option maxRecDepth 100000
theorem info88 : (Try.prog.info? 88).map (·.size) = some 16 := by kernel_rfl
theorem eqg88 (x y : Operand) (cs ds : Array Value) (w : World) : (eqGuard .eql 88 x y (.agg cs) (.agg ds)).run Try.prog w = .ok () w := by
  have h : Try.prog.eqGuardType Try.prog.depth 88 = false := by kernel_rfl
  unfold eqGuard
  simp [Sem.run_bind, run_program, h]
theorem fa95_0 (b : Nat) (w : World) : (Instr.fieldAt 95 (.pointer (some ⟨b, 0, none⟩)) 0).run Try.prog w = .ok (.pointer (some ⟨b, 0, none⟩)) w := by kernel_rfl
theorem fa95_1 (b : Nat) (w : World) : (Instr.fieldAt 95 (.pointer (some ⟨b, 0, none⟩)) 1).run Try.prog w = .ok (.pointer (some ⟨b, 1, none⟩)) w := by kernel_rfl
theorem fa95_2 (b : Nat) (w : World) : (Instr.fieldAt 95 (.pointer (some ⟨b, 0, none⟩)) 2).run Try.prog w = .ok (.pointer (some ⟨b, 2, none⟩)) w := by kernel_rfl
theorem fa95_3 (b : Nat) (w : World) : (Instr.fieldAt 95 (.pointer (some ⟨b, 0, none⟩)) 3).run Try.prog w = .ok (.pointer (some ⟨b, 18, none⟩)) w := by kernel_rfl
theorem fa95_4 (b : Nat) (w : World) : (Instr.fieldAt 95 (.pointer (some ⟨b, 0, none⟩)) 4).run Try.prog w = .ok (.pointer (some ⟨b, 19, none⟩)) w := by kernel_rfl
theorem fa95_5 (b : Nat) (w : World) : (Instr.fieldAt 95 (.pointer (some ⟨b, 0, none⟩)) 5).run Try.prog w = .ok (.pointer (some ⟨b, 28, none⟩)) w := by kernel_rfl
theorem bld88 (w : World) : (Instr.build 88 #[]).run Try.prog w = .ok (.agg (u64s zeros16).toArray) w := by kernel_rfl
theorem bld93z (w : World) : (Instr.build 93 #[]).run Try.prog w = .ok (.agg (evt0.cells (.slice none 0 0)).toArray) w := by kernel_rfl
theorem isAgg88 (w : World) : (isAgg 88).run Try.prog w = .ok true w := by kernel_rfl
theorem size88 (w : World) : (sizeOf 88).run Try.prog w = .ok 16 w := by kernel_rfl
theorem isAgg93 (w : World) : (isAgg 93).run Try.prog w = .ok true w := by kernel_rfl
theorem size93 (w : World) : (sizeOf 93).run Try.prog w = .ok 9 w := by kernel_rfl
section
variable {w : World} {g : Nat} {x : Rcd} {u : Value}
theorem rc_get (h16 : x.words.length = 16) (k : Nat) (v : Value) (h : ([.int .u8 (x.what : Int)] ++ x.ev.cells u ++ [.int .u64 (x.lost : Int)] : List Value)[k]? = some v) : (x.cells u)[18 + k]? = some v := by
  unfold Rcd.cells
  simp only [List.append_assoc]
  rw [List.getElem?_append_right (by simp; omega), show 18 + k - ([.int .i64 x.era, .int .u64 (x.idx : Int)] : List Value).length = 16 + k by simp; omega, List.getElem?_append_right (by simp [h16]), show 16 + k - (x.words.map fun (y : Nat) => Value.int .u64 (y : Int)).length = k by simp [h16]]
  simpa only [List.append_assoc] using h
theorem rc_what (h16 : x.words.length = 16) : (x.cells u)[18]? = some (.int .u8 (x.what : Int)) := rc_get h16 0 _ rfl
theorem rc_lost (h16 : x.words.length = 16) : (x.cells u)[28]? = some (.int .u64 (x.lost : Int)) := rc_get h16 10 _ rfl
theorem rc_ev (h16 : x.words.length = 16) (k : Nat) (v : Value) (h : (x.ev.cells u)[k]? = some v) : (x.cells u)[19 + k]? = some v := by
  have hk : k < 9 := (List.getElem?_eq_some_iff.1 h).1
  have := rc_get (x := x) (u := u) h16 (1 + k) v (by
    simp only [List.append_assoc]
    rw [List.getElem?_append_right (by simp), show 1 + k - ([.int .u8 (x.what : Int)] : List Value).length = k by simp, List.getElem?_append_left (by rw [Evt.cells_len]; exact hk)]
    exact h)
  rwa [← Nat.add_assoc] at this
theorem rc_words (h16 : x.words.length = 16) (k : Nat) (v : Value) (h : (u64s x.words)[k]? = some v) : (x.cells u)[2 + k]? = some v := by
  have hk : k < 16 := by
    have := (List.getElem?_eq_some_iff.1 h).1
    rw [u64s_len] at this
    omega
  unfold Rcd.cells
  simp only [List.append_assoc]
  rw [List.getElem?_append_right (by simp), show 2 + k - ([.int .i64 x.era, .int .u64 (x.idx : Int)] : List Value).length = k by simp, List.getElem?_append_left (by simp [h16]; exact hk)]
  exact h
theorem ld_ev (T : Blk w g 95 (x.cells u)) (h16 : x.words.length = 16) : (Instr.loadAt 93 (.pointer (some ⟨g, 19, none⟩))).run Try.prog w = .ok (.agg (x.ev.cells u).toArray) w :=
  l_part isAgg93 size93 (fun j v hv => by rw [T.cell]; exact rc_ev h16 j v hv)
theorem ld_words (T : Blk w g 95 (x.cells u)) (h16 : x.words.length = 16) : (Instr.loadAt 88 (.pointer (some ⟨g, 2, none⟩))).run Try.prog w = .ok (.agg (u64s x.words).toArray) w :=
  l_part isAgg88 (fun w => by rw [u64s_len, h16]; exact size88 w) (fun j v hv => by rw [T.cell]; exact rc_words h16 j v hv)
theorem ld_rec (T : Blk w g 95 (x.cells u)) (h16 : x.words.length = 16) : (Instr.loadAt 95 (.pointer (some ⟨g, 0, none⟩))).run Try.prog w = .ok (.agg (x.cells u).toArray) w :=
  l_part isAgg95 (fun w => by rw [Rcd.cells_len _ _ h16]; exact size95 w) (fun j v hv => by rw [T.cell, Nat.zero_add]; exact hv)
end
theorem compare_any (xs ys : List Nat) (hx16 : xs.length = 16) (hy16 : ys.length = 16) (bx : ∀ x ∈ xs, x < 18446744073709551616) (by_ : ∀ x ∈ ys, x < 18446744073709551616) (w0 : World) :
    Calls Try.prog 121 #[.agg (u64s xs).toArray, .agg (u64s ys).toArray] w0 fun e w' => ∃ k : Nat, e = .returned (.int .u8 (k : Int)) ∧ (k = 1 ↔ xs = ys) ∧ Ext w0 w' := by
  by_cases heq : xs = ys
  · skip
    refine calls_has (args := [.agg (u64s xs).toArray, .agg (u64s ys).toArray]) Try.func121 rfl Try.ntmps121 (Nat.le_of_ble_eq_true rfl) (fun a H => ?_)
    simp only [argl, Nat.reduceAdd] at H
    refine wp_seq_k (fun K1 hK1 => ?_)
    refine e_region (fun R hR => ?_)
    refine e_op H rfl rfl (by decide) (x_box H rfl rfl bx_new) ?_
    clear H a; intro a H
    have T1 := Blk.new w0 88 (u64s xs)
    have E1 := (Ext.refl w0).al (.cells (u64s xs).toArray 88)
    obtain ⟨g1, hg1⟩ : ∃ g, g = w0.heap.size := ⟨_, rfl⟩
    rw [← hg1] at H T1
    generalize w0.alloc (.cells (u64s xs).toArray 88) = w1 at *
    refine e_op H rfl rfl (by decide) (x_box H rfl rfl bx_new) ?_
    clear H a; intro a H
    have T2 := Blk.new w1 88 (u64s ys)
    replace T1 := T1.alloc (.cells (u64s ys).toArray 88)
    have E := E1.al (.cells (u64s ys).toArray 88)
    obtain ⟨g2, hg2⟩ : ∃ g, g = w1.heap.size := ⟨_, rfl⟩
    rw [← hg2] at H T2
    generalize w1.alloc (.cells (u64s ys).toArray 88) = w2 at *
    refine e_op H rfl rfl (by decide) (x_assign H rfl rfl) ?_
    clear H a; intro a H
    refine e_nil (hR.out _ _ ?_)
    clear hR R
    refine hK1 _ _ ?_
    clear hK1 K1
    refine wp_seq_k (fun K2 hK2 => ?_)
    refine wp_block ?_
    refine wp_seq_k (fun K3 hK3 => ?_)
    refine e_region (fun R hR => ?_)
    refine e_op H rfl rfl (by decide) (x_load H rfl rfl (l_row T1 Try.underlying88 rfl (by rw [info88]; simp [u64s_len, hx16]))) ?_
    clear H a; intro a H
    refine e_op H rfl rfl (by decide) (x_load H rfl rfl (l_row T2 Try.underlying88 rfl (by rw [info88]; simp [u64s_len, hy16]))) ?_
    clear H a; intro a H
    refine e_op H rfl rfl (by decide) (x_bin H rfl rfl rfl (eqg88 _ _ _ _ _) (eql88 xs ys hx16 hy16 bx by_ _)) ?_
    clear H a; intro a H
    rw [decide_eq_true heq] at H
    refine e_op H rfl rfl (by decide) (x_assign H rfl rfl) ?_
    clear H a; intro a H
    refine e_nil (hR.out _ _ ?_)
    clear hR R
    refine hK3 _ _ ?_
    clear hK3 K3
    refine c_true H rfl ?_
    refine wp_seq_k (fun K4 hK4 => ?_)
    refine e_region (fun R hR => ?_)
    refine e_op H rfl rfl (by decide) (x_assign H rfl rfl) ?_
    clear H a; intro a H
    refine e_nil (hR.out _ _ ?_)
    clear hR R
    refine hK4 _ _ ?_
    clear hK4 K4
    refine wp_ret ?_
    refine b_ret ?_
    refine t_ret ?_
    exact ret1 H rfl rfl ⟨1, rfl, ⟨fun _ => heq, fun _ => rfl⟩, E⟩
  · skip
    refine calls_has (args := [.agg (u64s xs).toArray, .agg (u64s ys).toArray]) Try.func121 rfl Try.ntmps121 (Nat.le_of_ble_eq_true rfl) (fun a H => ?_)
    simp only [argl, Nat.reduceAdd] at H
    refine wp_seq_k (fun K1 hK1 => ?_)
    refine e_region (fun R hR => ?_)
    refine e_op H rfl rfl (by decide) (x_box H rfl rfl bx_new) ?_
    clear H a; intro a H
    have T1 := Blk.new w0 88 (u64s xs)
    have E1 := (Ext.refl w0).al (.cells (u64s xs).toArray 88)
    obtain ⟨g1, hg1⟩ : ∃ g, g = w0.heap.size := ⟨_, rfl⟩
    rw [← hg1] at H T1
    generalize w0.alloc (.cells (u64s xs).toArray 88) = w1 at *
    refine e_op H rfl rfl (by decide) (x_box H rfl rfl bx_new) ?_
    clear H a; intro a H
    have T2 := Blk.new w1 88 (u64s ys)
    replace T1 := T1.alloc (.cells (u64s ys).toArray 88)
    have E := E1.al (.cells (u64s ys).toArray 88)
    obtain ⟨g2, hg2⟩ : ∃ g, g = w1.heap.size := ⟨_, rfl⟩
    rw [← hg2] at H T2
    generalize w1.alloc (.cells (u64s ys).toArray 88) = w2 at *
    refine e_op H rfl rfl (by decide) (x_assign H rfl rfl) ?_
    clear H a; intro a H
    refine e_nil (hR.out _ _ ?_)
    clear hR R
    refine hK1 _ _ ?_
    clear hK1 K1
    refine wp_seq_k (fun K2 hK2 => ?_)
    refine wp_block ?_
    refine wp_seq_k (fun K3 hK3 => ?_)
    refine e_region (fun R hR => ?_)
    refine e_op H rfl rfl (by decide) (x_load H rfl rfl (l_row T1 Try.underlying88 rfl (by rw [info88]; simp [u64s_len, hx16]))) ?_
    clear H a; intro a H
    refine e_op H rfl rfl (by decide) (x_load H rfl rfl (l_row T2 Try.underlying88 rfl (by rw [info88]; simp [u64s_len, hy16]))) ?_
    clear H a; intro a H
    refine e_op H rfl rfl (by decide) (x_bin H rfl rfl rfl (eqg88 _ _ _ _ _) (eql88 xs ys hx16 hy16 bx by_ _)) ?_
    clear H a; intro a H
    rw [decide_eq_false heq] at H
    refine e_op H rfl rfl (by decide) (x_assign H rfl rfl) ?_
    clear H a; intro a H
    refine e_nil (hR.out _ _ ?_)
    clear hR R
    refine hK3 _ _ ?_
    clear hK3 K3
    refine c_false H rfl ?_
    refine wp_seq_k (fun K4 hK4 => ?_)
    refine e_region (fun R hR => ?_)
    refine e_op H rfl rfl (by decide) (x_load H rfl rfl (l_row T1 Try.underlying88 rfl (by rw [info88]; simp [u64s_len, hx16]))) ?_
    clear H a; intro a H
    refine e_op H rfl rfl (by decide) (x_load H rfl rfl (l_row T2 Try.underlying88 rfl (by rw [info88]; simp [u64s_len, hy16]))) ?_
    clear H a; intro a H
    refine e_callq H rfl rfl (by decide) rfl rfl (Try.call140 _) (leq_any xs ys hx16 hy16 _) ?_
    clear H a
    rintro e w3 ⟨b1, rfl, E3⟩
    refine ⟨_, rfl, fun a H => ?_⟩
    refine e_op H rfl rfl (by decide) (x_assign H rfl rfl) ?_
    clear H a; intro a H
    refine e_nil (hR.out _ _ ?_)
    clear hR R
    refine hK4 _ _ ?_
    clear hK4 K4
    refine c_split H rfl (fun ht => ?_) (fun ht => ?_)
    · skip
      refine wp_seq_k (fun K5 hK5 => ?_)
      refine e_region (fun R hR => ?_)
      refine e_op H rfl rfl (by decide) (x_assign H rfl rfl) ?_
      clear H a; intro a H
      refine e_nil (hR.out _ _ ?_)
      clear hR R
      refine hK5 _ _ ?_
      clear hK5 K5
      refine wp_ret ?_
      refine b_ret ?_
      refine t_ret ?_
      exact ret1 H rfl rfl ⟨2, rfl, ⟨(fun h => by cases h), fun h => absurd h heq⟩, E.tr E3⟩
    · skip
      refine wp_seq_k (fun K6 hK6 => ?_)
      refine e_region (fun R hR => ?_)
      refine e_op H rfl rfl (by decide) (x_load H rfl rfl (l_row (T2.ext E3) Try.underlying88 rfl (by rw [info88]; simp [u64s_len, hy16]))) ?_
      clear H a; intro a H
      refine e_op H rfl rfl (by decide) (x_load H rfl rfl (l_row (T1.ext E3) Try.underlying88 rfl (by rw [info88]; simp [u64s_len, hx16]))) ?_
      clear H a; intro a H
      refine e_callq H rfl rfl (by decide) rfl rfl (Try.call140 _) (leq_any ys xs hy16 hx16 _) ?_
      clear H a
      rintro e w4 ⟨b2, rfl, E4⟩
      refine ⟨_, rfl, fun a H => ?_⟩
      refine e_op H rfl rfl (by decide) (x_assign H rfl rfl) ?_
      clear H a; intro a H
      refine e_nil (hR.out _ _ ?_)
      clear hR R
      refine hK6 _ _ ?_
      clear hK6 K6
      refine c_split H rfl (fun ht => ?_) (fun ht => ?_)
      · skip
        refine wp_seq_k (fun K7 hK7 => ?_)
        refine e_region (fun R hR => ?_)
        refine e_op H rfl rfl (by decide) (x_assign H rfl rfl) ?_
        clear H a; intro a H
        refine e_nil (hR.out _ _ ?_)
        clear hR R
        refine hK7 _ _ ?_
        clear hK7 K7
        refine wp_ret ?_
        refine b_ret ?_
        refine t_ret ?_
        exact ret1 H rfl rfl ⟨3, rfl, ⟨(fun h => by cases h), fun h => absurd h heq⟩, (E.tr E3).tr E4⟩
      · skip
        refine wp_skip ?_
        refine hK2 _ _ ?_
        clear hK2 K2
        refine wp_seq_k (fun K8 hK8 => ?_)
        refine e_region (fun R hR => ?_)
        refine e_op H rfl rfl (by decide) (x_assign H rfl rfl) ?_
        clear H a; intro a H
        refine e_nil (hR.out _ _ ?_)
        clear hR R
        refine hK8 _ _ ?_
        clear hK8 K8
        refine wp_ret ?_
        exact ret1 H rfl rfl ⟨4, rfl, ⟨(fun h => by cases h), fun h => absurd h heq⟩, (E.tr E3).tr E4⟩
theorem cmp1 (k : Nat) (b : Bool) (p : Prop) [Decidable p] (h : k = 1 ↔ p) (hb : decide p = b) : (((k : Nat) : Int) == 1) = b := by
  subst hb
  rw [Bool.eq_iff_iff]
  simp
  rw [← h]
  omega
theorem z16 : ∀ x ∈ zeros16, x < 18446744073709551616 := by
  intro x hx
  have := (List.mem_replicate.1 hx).2
  omega
theorem zl_nil (w : World) : Zl w (.slice none 0 0) [] := ⟨none, 0, 0, rfl, ⟨rfl, fun j hj => by omega⟩, Nat.le_refl _, fun _ => rfl, by omega⟩
theorem bare_any (x : Rcd) (u : Value) (w0 : World) (hx : x.ok) (hu : Zl w0 u x.ev.args) : Calls Try.prog 126 #[.agg (x.cells u).toArray] w0 fun e w' => e = .returned (.bool x.bare) ∧ Ext w0 w' := by
  cases h0 : decide (x.words = zeros16) with
  | true =>
    skip
    refine calls_has (args := [.agg (x.cells u).toArray]) Try.func126 rfl Try.ntmps126 (Nat.le_of_ble_eq_true rfl) (fun a H => ?_)
    simp only [argl, Nat.reduceAdd] at H
    refine wp_seq_k (fun K1 hK1 => ?_)
    refine e_region (fun R hR => ?_)
    refine e_op H rfl rfl (by decide) (x_box H rfl rfl bx_new) ?_
    clear H a; intro a H
    have T := Blk.new w0 95 (x.cells u)
    have E := (Ext.refl w0).al (.cells (x.cells u).toArray 95)
    obtain ⟨g1, hg1⟩ : ∃ g, g = w0.heap.size := ⟨_, rfl⟩
    rw [← hg1] at H T
    generalize w0.alloc (.cells (x.cells u).toArray 95) = w1 at *
    refine e_op H rfl rfl (by decide) (x_assign H rfl rfl) ?_
    clear H a; intro a H
    refine e_nil (hR.out _ _ ?_)
    clear hR R
    refine hK1 _ _ ?_
    clear hK1 K1
    refine wp_seq_k (fun K2 hK2 => ?_)
    refine e_region (fun R hR => ?_)
    refine e_op H rfl rfl (by decide) (x_fieldAddr H rfl rfl (fa95_2 _ _)) ?_
    clear H a; intro a H
    refine e_op H rfl rfl (by decide) (x_load H rfl rfl (ld_words T hx.words)) ?_
    clear H a; intro a H
    refine e_op H rfl rfl (by decide) (x_build H rfl rfl (bld88 _)) ?_
    clear H a; intro a H
    refine e_callq H rfl rfl (by decide) rfl rfl (Try.call121 _) (compare_any x.words zeros16 hx.words (by rfl) hx.w64 z16 _) ?_
    clear H a
    rintro e w2 ⟨k, rfl, hk, E2⟩
    refine ⟨_, rfl, fun a H => ?_⟩
    refine e_op H rfl rfl (by decide) (x_binI H rfl rfl rfl (b_eql (b := true) (cmp1 k _ _ hk h0))) ?_
    clear H a; intro a H
    refine e_op H rfl rfl (by decide) (x_move H rfl rfl) ?_
    clear H a; intro a H
    refine e_opg H (wanted_true H rfl rfl rfl rfl) rfl (by decide) (x_fieldAddr H rfl rfl (fa95_4 _ _)) ?_
    clear H a; intro a H
    refine e_opg H (wanted_true H rfl rfl rfl rfl) rfl (by decide) (x_load H rfl rfl (ld_ev (T.ext E2) hx.words)) ?_
    clear H a; intro a H
    refine e_opg H (wanted_true H rfl rfl rfl rfl) rfl (by decide) (x_build H rfl rfl (bld93z _)) ?_
    clear H a; intro a H
    refine e_callqg H (wanted_true H rfl rfl rfl rfl) rfl (by decide) rfl rfl (Try.call122 _) (equalEvent_any x.ev evt0 u (.slice none 0 0) w2 (hu.ext (E.tr E2)) (zl_nil _)) ?_
    clear H a
    rintro e w3 ⟨rfl, E3⟩
    refine ⟨_, rfl, fun a H => ?_⟩
    refine e_op H rfl rfl (by decide) (x_pickT H rfl rfl rfl) ?_
    clear H a; intro a H
    refine e_op H rfl rfl (by decide) (x_assign H rfl rfl) ?_
    clear H a; intro a H
    refine e_nil (hR.out _ _ ?_)
    clear hR R
    refine hK2 _ _ ?_
    clear hK2 K2
    refine wp_ret ?_
    exact ret1 H rfl rfl ⟨by unfold Rcd.bare; rw [h0]; rfl, (E.tr E2).tr E3⟩
  | false =>
    skip
    refine calls_has (args := [.agg (x.cells u).toArray]) Try.func126 rfl Try.ntmps126 (Nat.le_of_ble_eq_true rfl) (fun a H => ?_)
    simp only [argl, Nat.reduceAdd] at H
    refine wp_seq_k (fun K1 hK1 => ?_)
    refine e_region (fun R hR => ?_)
    refine e_op H rfl rfl (by decide) (x_box H rfl rfl bx_new) ?_
    clear H a; intro a H
    have T := Blk.new w0 95 (x.cells u)
    have E := (Ext.refl w0).al (.cells (x.cells u).toArray 95)
    obtain ⟨g1, hg1⟩ : ∃ g, g = w0.heap.size := ⟨_, rfl⟩
    rw [← hg1] at H T
    generalize w0.alloc (.cells (x.cells u).toArray 95) = w1 at *
    refine e_op H rfl rfl (by decide) (x_assign H rfl rfl) ?_
    clear H a; intro a H
    refine e_nil (hR.out _ _ ?_)
    clear hR R
    refine hK1 _ _ ?_
    clear hK1 K1
    refine wp_seq_k (fun K2 hK2 => ?_)
    refine e_region (fun R hR => ?_)
    refine e_op H rfl rfl (by decide) (x_fieldAddr H rfl rfl (fa95_2 _ _)) ?_
    clear H a; intro a H
    refine e_op H rfl rfl (by decide) (x_load H rfl rfl (ld_words T hx.words)) ?_
    clear H a; intro a H
    refine e_op H rfl rfl (by decide) (x_build H rfl rfl (bld88 _)) ?_
    clear H a; intro a H
    refine e_callq H rfl rfl (by decide) rfl rfl (Try.call121 _) (compare_any x.words zeros16 hx.words (by rfl) hx.w64 z16 _) ?_
    clear H a
    rintro e w2 ⟨k, rfl, hk, E2⟩
    refine ⟨_, rfl, fun a H => ?_⟩
    refine e_op H rfl rfl (by decide) (x_binI H rfl rfl rfl (b_eql (b := false) (cmp1 k _ _ hk h0))) ?_
    clear H a; intro a H
    refine e_op H rfl rfl (by decide) (x_move H rfl rfl) ?_
    clear H a; intro a H
    refine e_skip H (wanted_false H rfl rfl rfl rfl) rfl (by decide) ?_
    clear H a; intro a H
    refine e_skip H (wanted_false H rfl rfl rfl rfl) rfl (by decide) ?_
    clear H a; intro a H
    refine e_skip H (wanted_false H rfl rfl rfl rfl) rfl (by decide) ?_
    clear H a; intro a H
    refine e_skip H (wanted_false H rfl rfl rfl rfl) rfl (by decide) ?_
    clear H a; intro a H
    refine e_op H rfl rfl (by decide) (x_pickF H rfl rfl rfl) ?_
    clear H a; intro a H
    refine e_op H rfl rfl (by decide) (x_assign H rfl rfl) ?_
    clear H a; intro a H
    refine e_nil (hR.out _ _ ?_)
    clear hR R
    refine hK2 _ _ ?_
    clear hK2 K2
    refine wp_ret ?_
    exact ret1 H rfl rfl ⟨by unfold Rcd.bare; rw [h0]; rfl, E.tr E2⟩
theorem chk0 (x : Rcd) (u : Value) (w0 : World) (hx : x.ok) (hu : Zl w0 u x.ev.args) (k1 : x.what = 1) (p0 : x.ev.good x.era = false) : Calls Try.prog 90 #[.agg (x.cells u).toArray] w0 fun e w' => e = .returned (.int .i64 (if x.good then 0 else 1)) ∧ Ext w0 w' := by
  have h1 : (((x.what : Nat) : Int) == 1) = true := by simp; omega
  refine calls_has (args := [.agg (x.cells u).toArray]) Try.func90 rfl Try.ntmps90 (Nat.le_of_ble_eq_true rfl) (fun a H => ?_)
  simp only [argl, Nat.reduceAdd] at H
  refine wp_seq_k (fun K1 hK1 => ?_)
  refine e_region (fun R hR => ?_)
  refine e_op H rfl rfl (by decide) (x_box H rfl rfl bx_new) ?_
  clear H a; intro a H
  have T := Blk.new w0 95 (x.cells u)
  have E := (Ext.refl w0).al (.cells (x.cells u).toArray 95)
  obtain ⟨g1, hg1⟩ : ∃ g, g = w0.heap.size := ⟨_, rfl⟩
  rw [← hg1] at H T
  generalize w0.alloc (.cells (x.cells u).toArray 95) = w1 at *
  refine e_op H rfl rfl (by decide) (x_assign H rfl rfl) ?_
  clear H a; intro a H
  refine e_nil (hR.out _ _ ?_)
  clear hR R
  refine hK1 _ _ ?_
  clear hK1 K1
  refine wp_seq_k (fun K2 hK2 => ?_)
  refine e_region (fun R hR => ?_)
  refine e_op H rfl rfl (by decide) (x_assign H rfl rfl) ?_
  clear H a; intro a H
  refine e_nil (hR.out _ _ ?_)
  clear hR R
  refine hK2 _ _ ?_
  clear hK2 K2
  refine wp_seq_k (fun K3 hK3 => ?_)
  refine wp_seq_k (fun K4 hK4 => ?_)
  refine e_region (fun R hR => ?_)
  refine e_op H rfl rfl (by decide) (x_fieldAddr H rfl rfl (fa95_3 _ _)) ?_
  clear H a; intro a H
  refine e_op H rfl rfl (by decide) (x_load H rfl rfl (l_cell Try.isAgg89 (T.at_ (rc_what hx.words)))) ?_
  clear H a; intro a H
  refine e_nil (hR.out _ _ ?_)
  clear hR R
  refine hK4 _ _ ?_
  clear hK4 K4
  refine wp_block ?_
  refine wp_seq_k (fun K5 hK5 => ?_)
  refine e_region (fun R hR => ?_)
  refine e_op H rfl rfl (by decide) (x_binI H rfl rfl rfl (b_eql (b := true) (h1))) ?_
  clear H a; intro a H
  refine e_op H rfl rfl (by decide) (x_assign H rfl rfl) ?_
  clear H a; intro a H
  refine e_nil (hR.out _ _ ?_)
  clear hR R
  refine hK5 _ _ ?_
  clear hK5 K5
  refine c_true H rfl ?_
  refine e_region (fun R hR => ?_)
  refine e_op H rfl rfl (by decide) (x_fieldAddr H rfl rfl (fa95_4 _ _)) ?_
  clear H a; intro a H
  refine e_op H rfl rfl (by decide) (x_load H rfl rfl (ld_ev T hx.words)) ?_
  clear H a; intro a H
  refine e_op H rfl rfl (by decide) (x_fieldAddr H rfl rfl (fa95_0 _ _)) ?_
  clear H a; intro a H
  refine e_op H rfl rfl (by decide) (x_load H rfl rfl (l_cell Try.isAgg3 (T.at_ rfl))) ?_
  clear H a; intro a H
  refine e_callq H rfl rfl (by decide) rfl rfl (Try.call125 _) (checkEvent_any x.ev x.era u w1 (hu.ext E)) ?_
  clear H a
  rintro e w2 ⟨rfl, E2⟩
  refine ⟨_, rfl, fun a H => ?_⟩
  rw [p0] at H
  refine e_op H rfl rfl (by decide) (x_move H rfl rfl) ?_
  clear H a; intro a H
  refine e_skip H (wanted_false H rfl rfl rfl rfl) rfl (by decide) ?_
  clear H a; intro a H
  refine e_skip H (wanted_false H rfl rfl rfl rfl) rfl (by decide) ?_
  clear H a; intro a H
  refine e_skip H (wanted_false H rfl rfl rfl rfl) rfl (by decide) ?_
  clear H a; intro a H
  refine e_op H rfl rfl (by decide) (x_pickF H rfl rfl rfl) ?_
  clear H a; intro a H
  refine e_op H rfl rfl (by decide) (x_assign H rfl rfl) ?_
  clear H a; intro a H
  refine e_nil (hR.out _ _ ?_)
  clear hR R
  refine hK3 _ _ ?_
  clear hK3 K3
  refine wp_seq_k (fun K6 hK6 => ?_)
  refine wp_seq_k (fun K7 hK7 => ?_)
  refine e_region (fun R hR => ?_)
  refine e_op H rfl rfl (by decide) (x_move H rfl rfl) ?_
  clear H a; intro a H
  refine e_op H rfl rfl (by decide) (x_un H rfl rfl (u_not (c := true) (rfl))) ?_
  clear H a; intro a H
  refine e_op H rfl rfl (by decide) (x_move H rfl rfl) ?_
  clear H a; intro a H
  refine e_skip H (wanted_false H rfl rfl rfl rfl) rfl (by decide) ?_
  clear H a; intro a H
  refine e_skip H (wanted_false H rfl rfl rfl rfl) rfl (by decide) ?_
  clear H a; intro a H
  refine e_skip H (wanted_false H rfl rfl rfl rfl) rfl (by decide) ?_
  clear H a; intro a H
  refine e_skip H (wanted_false H rfl rfl rfl rfl) rfl (by decide) ?_
  clear H a; intro a H
  refine e_op H rfl rfl (by decide) (x_pickT H rfl rfl rfl) ?_
  clear H a; intro a H
  refine e_nil (hR.out _ _ ?_)
  clear hR R
  refine hK7 _ _ ?_
  clear hK7 K7
  refine c_true H rfl ?_
  refine wp_seq_k (fun K8 hK8 => ?_)
  refine e_region (fun R hR => ?_)
  refine e_op H rfl rfl (by decide) (x_assign H rfl rfl) ?_
  clear H a; intro a H
  refine e_nil (hR.out _ _ ?_)
  clear hR R
  refine hK8 _ _ ?_
  clear hK8 K8
  refine wp_ret ?_
  refine t_ret ?_
  exact ret1 H rfl rfl ⟨by rw [show x.good = false by unfold Rcd.good Rcd.good0; rw [if_pos k1]; simp [p0]]; rfl, (E.tr E2)⟩
theorem chk1 (x : Rcd) (u : Value) (w0 : World) (hx : x.ok) (hu : Zl w0 u x.ev.args) (k1 : x.what = 1) (p0 : x.ev.good x.era = true) (q1 : decide (x.lost = 0) = false) : Calls Try.prog 90 #[.agg (x.cells u).toArray] w0 fun e w' => e = .returned (.int .i64 (if x.good then 0 else 1)) ∧ Ext w0 w' := by
  have h1 : (((x.what : Nat) : Int) == 1) = true := by simp; omega
  have p1 : (((x.lost : Nat) : Int) == 0) = false := by rw [← q1, Bool.eq_iff_iff]; simp
  refine calls_has (args := [.agg (x.cells u).toArray]) Try.func90 rfl Try.ntmps90 (Nat.le_of_ble_eq_true rfl) (fun a H => ?_)
  simp only [argl, Nat.reduceAdd] at H
  refine wp_seq_k (fun K1 hK1 => ?_)
  refine e_region (fun R hR => ?_)
  refine e_op H rfl rfl (by decide) (x_box H rfl rfl bx_new) ?_
  clear H a; intro a H
  have T := Blk.new w0 95 (x.cells u)
  have E := (Ext.refl w0).al (.cells (x.cells u).toArray 95)
  obtain ⟨g1, hg1⟩ : ∃ g, g = w0.heap.size := ⟨_, rfl⟩
  rw [← hg1] at H T
  generalize w0.alloc (.cells (x.cells u).toArray 95) = w1 at *
  refine e_op H rfl rfl (by decide) (x_assign H rfl rfl) ?_
  clear H a; intro a H
  refine e_nil (hR.out _ _ ?_)
  clear hR R
  refine hK1 _ _ ?_
  clear hK1 K1
  refine wp_seq_k (fun K2 hK2 => ?_)
  refine e_region (fun R hR => ?_)
  refine e_op H rfl rfl (by decide) (x_assign H rfl rfl) ?_
  clear H a; intro a H
  refine e_nil (hR.out _ _ ?_)
  clear hR R
  refine hK2 _ _ ?_
  clear hK2 K2
  refine wp_seq_k (fun K3 hK3 => ?_)
  refine wp_seq_k (fun K4 hK4 => ?_)
  refine e_region (fun R hR => ?_)
  refine e_op H rfl rfl (by decide) (x_fieldAddr H rfl rfl (fa95_3 _ _)) ?_
  clear H a; intro a H
  refine e_op H rfl rfl (by decide) (x_load H rfl rfl (l_cell Try.isAgg89 (T.at_ (rc_what hx.words)))) ?_
  clear H a; intro a H
  refine e_nil (hR.out _ _ ?_)
  clear hR R
  refine hK4 _ _ ?_
  clear hK4 K4
  refine wp_block ?_
  refine wp_seq_k (fun K5 hK5 => ?_)
  refine e_region (fun R hR => ?_)
  refine e_op H rfl rfl (by decide) (x_binI H rfl rfl rfl (b_eql (b := true) (h1))) ?_
  clear H a; intro a H
  refine e_op H rfl rfl (by decide) (x_assign H rfl rfl) ?_
  clear H a; intro a H
  refine e_nil (hR.out _ _ ?_)
  clear hR R
  refine hK5 _ _ ?_
  clear hK5 K5
  refine c_true H rfl ?_
  refine e_region (fun R hR => ?_)
  refine e_op H rfl rfl (by decide) (x_fieldAddr H rfl rfl (fa95_4 _ _)) ?_
  clear H a; intro a H
  refine e_op H rfl rfl (by decide) (x_load H rfl rfl (ld_ev T hx.words)) ?_
  clear H a; intro a H
  refine e_op H rfl rfl (by decide) (x_fieldAddr H rfl rfl (fa95_0 _ _)) ?_
  clear H a; intro a H
  refine e_op H rfl rfl (by decide) (x_load H rfl rfl (l_cell Try.isAgg3 (T.at_ rfl))) ?_
  clear H a; intro a H
  refine e_callq H rfl rfl (by decide) rfl rfl (Try.call125 _) (checkEvent_any x.ev x.era u w1 (hu.ext E)) ?_
  clear H a
  rintro e w2 ⟨rfl, E2⟩
  refine ⟨_, rfl, fun a H => ?_⟩
  rw [p0] at H
  refine e_op H rfl rfl (by decide) (x_move H rfl rfl) ?_
  clear H a; intro a H
  refine e_opg H (wanted_true H rfl rfl rfl rfl) rfl (by decide) (x_fieldAddr H rfl rfl (fa95_5 _ _)) ?_
  clear H a; intro a H
  refine e_opg H (wanted_true H rfl rfl rfl rfl) rfl (by decide) (x_load H rfl rfl (l_cell Try.isAgg56 ((T.ext E2).at_ (rc_lost hx.words)))) ?_
  clear H a; intro a H
  refine e_opg H (wanted_true H rfl rfl rfl rfl) rfl (by decide) (x_binI H rfl rfl rfl (b_eql (b := false) (p1))) ?_
  clear H a; intro a H
  refine e_op H rfl rfl (by decide) (x_pickT H rfl rfl rfl) ?_
  clear H a; intro a H
  refine e_op H rfl rfl (by decide) (x_assign H rfl rfl) ?_
  clear H a; intro a H
  refine e_nil (hR.out _ _ ?_)
  clear hR R
  refine hK3 _ _ ?_
  clear hK3 K3
  refine wp_seq_k (fun K6 hK6 => ?_)
  refine wp_seq_k (fun K7 hK7 => ?_)
  refine e_region (fun R hR => ?_)
  refine e_op H rfl rfl (by decide) (x_move H rfl rfl) ?_
  clear H a; intro a H
  refine e_op H rfl rfl (by decide) (x_un H rfl rfl (u_not (c := true) (rfl))) ?_
  clear H a; intro a H
  refine e_op H rfl rfl (by decide) (x_move H rfl rfl) ?_
  clear H a; intro a H
  refine e_skip H (wanted_false H rfl rfl rfl rfl) rfl (by decide) ?_
  clear H a; intro a H
  refine e_skip H (wanted_false H rfl rfl rfl rfl) rfl (by decide) ?_
  clear H a; intro a H
  refine e_skip H (wanted_false H rfl rfl rfl rfl) rfl (by decide) ?_
  clear H a; intro a H
  refine e_skip H (wanted_false H rfl rfl rfl rfl) rfl (by decide) ?_
  clear H a; intro a H
  refine e_op H rfl rfl (by decide) (x_pickT H rfl rfl rfl) ?_
  clear H a; intro a H
  refine e_nil (hR.out _ _ ?_)
  clear hR R
  refine hK7 _ _ ?_
  clear hK7 K7
  refine c_true H rfl ?_
  refine wp_seq_k (fun K8 hK8 => ?_)
  refine e_region (fun R hR => ?_)
  refine e_op H rfl rfl (by decide) (x_assign H rfl rfl) ?_
  clear H a; intro a H
  refine e_nil (hR.out _ _ ?_)
  clear hR R
  refine hK8 _ _ ?_
  clear hK8 K8
  refine wp_ret ?_
  refine t_ret ?_
  exact ret1 H rfl rfl ⟨by rw [show x.good = false by unfold Rcd.good Rcd.good0; rw [if_pos k1]; simp [p0, q1]]; rfl, (E.tr E2)⟩
theorem chk2 (x : Rcd) (u : Value) (w0 : World) (hx : x.ok) (hu : Zl w0 u x.ev.args) (k1 : x.what = 1) (p0 : x.ev.good x.era = true) (q1 : decide (x.lost = 0) = true) (pw : inN x.era 8 = true) : Calls Try.prog 90 #[.agg (x.cells u).toArray] w0 fun e w' => e = .returned (.int .i64 (if x.good then 0 else 1)) ∧ Ext w0 w' := by
  have h1 : (((x.what : Nat) : Int) == 1) = true := by simp; omega
  have p1 : (((x.lost : Nat) : Int) == 0) = true := by rw [← q1, Bool.eq_iff_iff]; simp
  refine calls_has (args := [.agg (x.cells u).toArray]) Try.func90 rfl Try.ntmps90 (Nat.le_of_ble_eq_true rfl) (fun a H => ?_)
  simp only [argl, Nat.reduceAdd] at H
  refine wp_seq_k (fun K1 hK1 => ?_)
  refine e_region (fun R hR => ?_)
  refine e_op H rfl rfl (by decide) (x_box H rfl rfl bx_new) ?_
  clear H a; intro a H
  have T := Blk.new w0 95 (x.cells u)
  have E := (Ext.refl w0).al (.cells (x.cells u).toArray 95)
  obtain ⟨g1, hg1⟩ : ∃ g, g = w0.heap.size := ⟨_, rfl⟩
  rw [← hg1] at H T
  generalize w0.alloc (.cells (x.cells u).toArray 95) = w1 at *
  refine e_op H rfl rfl (by decide) (x_assign H rfl rfl) ?_
  clear H a; intro a H
  refine e_nil (hR.out _ _ ?_)
  clear hR R
  refine hK1 _ _ ?_
  clear hK1 K1
  refine wp_seq_k (fun K2 hK2 => ?_)
  refine e_region (fun R hR => ?_)
  refine e_op H rfl rfl (by decide) (x_assign H rfl rfl) ?_
  clear H a; intro a H
  refine e_nil (hR.out _ _ ?_)
  clear hR R
  refine hK2 _ _ ?_
  clear hK2 K2
  refine wp_seq_k (fun K3 hK3 => ?_)
  refine wp_seq_k (fun K4 hK4 => ?_)
  refine e_region (fun R hR => ?_)
  refine e_op H rfl rfl (by decide) (x_fieldAddr H rfl rfl (fa95_3 _ _)) ?_
  clear H a; intro a H
  refine e_op H rfl rfl (by decide) (x_load H rfl rfl (l_cell Try.isAgg89 (T.at_ (rc_what hx.words)))) ?_
  clear H a; intro a H
  refine e_nil (hR.out _ _ ?_)
  clear hR R
  refine hK4 _ _ ?_
  clear hK4 K4
  refine wp_block ?_
  refine wp_seq_k (fun K5 hK5 => ?_)
  refine e_region (fun R hR => ?_)
  refine e_op H rfl rfl (by decide) (x_binI H rfl rfl rfl (b_eql (b := true) (h1))) ?_
  clear H a; intro a H
  refine e_op H rfl rfl (by decide) (x_assign H rfl rfl) ?_
  clear H a; intro a H
  refine e_nil (hR.out _ _ ?_)
  clear hR R
  refine hK5 _ _ ?_
  clear hK5 K5
  refine c_true H rfl ?_
  refine e_region (fun R hR => ?_)
  refine e_op H rfl rfl (by decide) (x_fieldAddr H rfl rfl (fa95_4 _ _)) ?_
  clear H a; intro a H
  refine e_op H rfl rfl (by decide) (x_load H rfl rfl (ld_ev T hx.words)) ?_
  clear H a; intro a H
  refine e_op H rfl rfl (by decide) (x_fieldAddr H rfl rfl (fa95_0 _ _)) ?_
  clear H a; intro a H
  refine e_op H rfl rfl (by decide) (x_load H rfl rfl (l_cell Try.isAgg3 (T.at_ rfl))) ?_
  clear H a; intro a H
  refine e_callq H rfl rfl (by decide) rfl rfl (Try.call125 _) (checkEvent_any x.ev x.era u w1 (hu.ext E)) ?_
  clear H a
  rintro e w2 ⟨rfl, E2⟩
  refine ⟨_, rfl, fun a H => ?_⟩
  rw [p0] at H
  refine e_op H rfl rfl (by decide) (x_move H rfl rfl) ?_
  clear H a; intro a H
  refine e_opg H (wanted_true H rfl rfl rfl rfl) rfl (by decide) (x_fieldAddr H rfl rfl (fa95_5 _ _)) ?_
  clear H a; intro a H
  refine e_opg H (wanted_true H rfl rfl rfl rfl) rfl (by decide) (x_load H rfl rfl (l_cell Try.isAgg56 ((T.ext E2).at_ (rc_lost hx.words)))) ?_
  clear H a; intro a H
  refine e_opg H (wanted_true H rfl rfl rfl rfl) rfl (by decide) (x_binI H rfl rfl rfl (b_eql (b := true) (p1))) ?_
  clear H a; intro a H
  refine e_op H rfl rfl (by decide) (x_pickT H rfl rfl rfl) ?_
  clear H a; intro a H
  refine e_op H rfl rfl (by decide) (x_assign H rfl rfl) ?_
  clear H a; intro a H
  refine e_nil (hR.out _ _ ?_)
  clear hR R
  refine hK3 _ _ ?_
  clear hK3 K3
  refine wp_seq_k (fun K6 hK6 => ?_)
  refine wp_seq_k (fun K7 hK7 => ?_)
  refine e_region (fun R hR => ?_)
  refine e_op H rfl rfl (by decide) (x_move H rfl rfl) ?_
  clear H a; intro a H
  refine e_op H rfl rfl (by decide) (x_un H rfl rfl (u_not (c := false) (rfl))) ?_
  clear H a; intro a H
  refine e_op H rfl rfl (by decide) (x_move H rfl rfl) ?_
  clear H a; intro a H
  refine e_opg H (wanted_true H rfl rfl rfl rfl) rfl (by decide) (x_fieldAddr H rfl rfl (fa95_0 _ _)) ?_
  clear H a; intro a H
  refine e_opg H (wanted_true H rfl rfl rfl rfl) rfl (by decide) (x_load H rfl rfl (l_cell Try.isAgg3 ((T.ext E2).at_ (i := 0) rfl))) ?_
  clear H a; intro a H
  refine e_callqg H (wanted_true H rfl rfl rfl rfl) rfl (by decide) rfl rfl (Try.call127 _) (within_is _ _ true pw _) ?_
  clear H a
  rintro e w9 ⟨rfl, rfl⟩
  refine ⟨_, rfl, fun a H => ?_⟩
  refine e_opg H (wanted_true H rfl rfl rfl rfl) rfl (by decide) (x_un H rfl rfl (u_not (c := false) (rfl))) ?_
  clear H a; intro a H
  refine e_op H rfl rfl (by decide) (x_pickF H rfl rfl rfl) ?_
  clear H a; intro a H
  refine e_nil (hR.out _ _ ?_)
  clear hR R
  refine hK7 _ _ ?_
  clear hK7 K7
  refine c_false H rfl ?_
  refine wp_skip ?_
  refine hK6 _ _ ?_
  clear hK6 K6
  refine wp_seq_k (fun K8 hK8 => ?_)
  refine e_region (fun R hR => ?_)
  refine e_op H rfl rfl (by decide) (x_assign H rfl rfl) ?_
  clear H a; intro a H
  refine e_nil (hR.out _ _ ?_)
  clear hR R
  refine hK8 _ _ ?_
  clear hK8 K8
  refine wp_ret ?_
  exact ret1 H rfl rfl ⟨by rw [show x.good = true by unfold Rcd.good Rcd.good0; rw [if_pos k1]; simp [p0, q1, pw]]; rfl, (E.tr E2)⟩
theorem chk3 (x : Rcd) (u : Value) (w0 : World) (hx : x.ok) (hu : Zl w0 u x.ev.args) (k1 : x.what = 1) (p0 : x.ev.good x.era = true) (q1 : decide (x.lost = 0) = true) (pw : inN x.era 8 = false) : Calls Try.prog 90 #[.agg (x.cells u).toArray] w0 fun e w' => e = .returned (.int .i64 (if x.good then 0 else 1)) ∧ Ext w0 w' := by
  have h1 : (((x.what : Nat) : Int) == 1) = true := by simp; omega
  have p1 : (((x.lost : Nat) : Int) == 0) = true := by rw [← q1, Bool.eq_iff_iff]; simp
  refine calls_has (args := [.agg (x.cells u).toArray]) Try.func90 rfl Try.ntmps90 (Nat.le_of_ble_eq_true rfl) (fun a H => ?_)
  simp only [argl, Nat.reduceAdd] at H
  refine wp_seq_k (fun K1 hK1 => ?_)
  refine e_region (fun R hR => ?_)
  refine e_op H rfl rfl (by decide) (x_box H rfl rfl bx_new) ?_
  clear H a; intro a H
  have T := Blk.new w0 95 (x.cells u)
  have E := (Ext.refl w0).al (.cells (x.cells u).toArray 95)
  obtain ⟨g1, hg1⟩ : ∃ g, g = w0.heap.size := ⟨_, rfl⟩
  rw [← hg1] at H T
  generalize w0.alloc (.cells (x.cells u).toArray 95) = w1 at *
  refine e_op H rfl rfl (by decide) (x_assign H rfl rfl) ?_
  clear H a; intro a H
  refine e_nil (hR.out _ _ ?_)
  clear hR R
  refine hK1 _ _ ?_
  clear hK1 K1
  refine wp_seq_k (fun K2 hK2 => ?_)
  refine e_region (fun R hR => ?_)
  refine e_op H rfl rfl (by decide) (x_assign H rfl rfl) ?_
  clear H a; intro a H
  refine e_nil (hR.out _ _ ?_)
  clear hR R
  refine hK2 _ _ ?_
  clear hK2 K2
  refine wp_seq_k (fun K3 hK3 => ?_)
  refine wp_seq_k (fun K4 hK4 => ?_)
  refine e_region (fun R hR => ?_)
  refine e_op H rfl rfl (by decide) (x_fieldAddr H rfl rfl (fa95_3 _ _)) ?_
  clear H a; intro a H
  refine e_op H rfl rfl (by decide) (x_load H rfl rfl (l_cell Try.isAgg89 (T.at_ (rc_what hx.words)))) ?_
  clear H a; intro a H
  refine e_nil (hR.out _ _ ?_)
  clear hR R
  refine hK4 _ _ ?_
  clear hK4 K4
  refine wp_block ?_
  refine wp_seq_k (fun K5 hK5 => ?_)
  refine e_region (fun R hR => ?_)
  refine e_op H rfl rfl (by decide) (x_binI H rfl rfl rfl (b_eql (b := true) (h1))) ?_
  clear H a; intro a H
  refine e_op H rfl rfl (by decide) (x_assign H rfl rfl) ?_
  clear H a; intro a H
  refine e_nil (hR.out _ _ ?_)
  clear hR R
  refine hK5 _ _ ?_
  clear hK5 K5
  refine c_true H rfl ?_
  refine e_region (fun R hR => ?_)
  refine e_op H rfl rfl (by decide) (x_fieldAddr H rfl rfl (fa95_4 _ _)) ?_
  clear H a; intro a H
  refine e_op H rfl rfl (by decide) (x_load H rfl rfl (ld_ev T hx.words)) ?_
  clear H a; intro a H
  refine e_op H rfl rfl (by decide) (x_fieldAddr H rfl rfl (fa95_0 _ _)) ?_
  clear H a; intro a H
  refine e_op H rfl rfl (by decide) (x_load H rfl rfl (l_cell Try.isAgg3 (T.at_ rfl))) ?_
  clear H a; intro a H
  refine e_callq H rfl rfl (by decide) rfl rfl (Try.call125 _) (checkEvent_any x.ev x.era u w1 (hu.ext E)) ?_
  clear H a
  rintro e w2 ⟨rfl, E2⟩
  refine ⟨_, rfl, fun a H => ?_⟩
  rw [p0] at H
  refine e_op H rfl rfl (by decide) (x_move H rfl rfl) ?_
  clear H a; intro a H
  refine e_opg H (wanted_true H rfl rfl rfl rfl) rfl (by decide) (x_fieldAddr H rfl rfl (fa95_5 _ _)) ?_
  clear H a; intro a H
  refine e_opg H (wanted_true H rfl rfl rfl rfl) rfl (by decide) (x_load H rfl rfl (l_cell Try.isAgg56 ((T.ext E2).at_ (rc_lost hx.words)))) ?_
  clear H a; intro a H
  refine e_opg H (wanted_true H rfl rfl rfl rfl) rfl (by decide) (x_binI H rfl rfl rfl (b_eql (b := true) (p1))) ?_
  clear H a; intro a H
  refine e_op H rfl rfl (by decide) (x_pickT H rfl rfl rfl) ?_
  clear H a; intro a H
  refine e_op H rfl rfl (by decide) (x_assign H rfl rfl) ?_
  clear H a; intro a H
  refine e_nil (hR.out _ _ ?_)
  clear hR R
  refine hK3 _ _ ?_
  clear hK3 K3
  refine wp_seq_k (fun K6 hK6 => ?_)
  refine wp_seq_k (fun K7 hK7 => ?_)
  refine e_region (fun R hR => ?_)
  refine e_op H rfl rfl (by decide) (x_move H rfl rfl) ?_
  clear H a; intro a H
  refine e_op H rfl rfl (by decide) (x_un H rfl rfl (u_not (c := false) (rfl))) ?_
  clear H a; intro a H
  refine e_op H rfl rfl (by decide) (x_move H rfl rfl) ?_
  clear H a; intro a H
  refine e_opg H (wanted_true H rfl rfl rfl rfl) rfl (by decide) (x_fieldAddr H rfl rfl (fa95_0 _ _)) ?_
  clear H a; intro a H
  refine e_opg H (wanted_true H rfl rfl rfl rfl) rfl (by decide) (x_load H rfl rfl (l_cell Try.isAgg3 ((T.ext E2).at_ (i := 0) rfl))) ?_
  clear H a; intro a H
  refine e_callqg H (wanted_true H rfl rfl rfl rfl) rfl (by decide) rfl rfl (Try.call127 _) (within_is _ _ false pw _) ?_
  clear H a
  rintro e w9 ⟨rfl, rfl⟩
  refine ⟨_, rfl, fun a H => ?_⟩
  refine e_opg H (wanted_true H rfl rfl rfl rfl) rfl (by decide) (x_un H rfl rfl (u_not (c := true) (rfl))) ?_
  clear H a; intro a H
  refine e_op H rfl rfl (by decide) (x_pickF H rfl rfl rfl) ?_
  clear H a; intro a H
  refine e_nil (hR.out _ _ ?_)
  clear hR R
  refine hK7 _ _ ?_
  clear hK7 K7
  refine c_true H rfl ?_
  refine wp_seq_k (fun K8 hK8 => ?_)
  refine e_region (fun R hR => ?_)
  refine e_op H rfl rfl (by decide) (x_assign H rfl rfl) ?_
  clear H a; intro a H
  refine e_nil (hR.out _ _ ?_)
  clear hR R
  refine hK8 _ _ ?_
  clear hK8 K8
  refine wp_ret ?_
  refine t_ret ?_
  exact ret1 H rfl rfl ⟨by rw [show x.good = false by unfold Rcd.good Rcd.good0; rw [if_pos k1]; simp [p0, q1, pw]]; rfl, (E.tr E2)⟩
theorem chk4 (x : Rcd) (u : Value) (w0 : World) (hx : x.ok) (hu : Zl w0 u x.ev.args) (k2 : x.what = 2) (p0 : x.bare = false) : Calls Try.prog 90 #[.agg (x.cells u).toArray] w0 fun e w' => e = .returned (.int .i64 (if x.good then 0 else 1)) ∧ Ext w0 w' := by
  have h1 : (((x.what : Nat) : Int) == 1) = false := by simp; omega
  have h2 : (((x.what : Nat) : Int) == 2) = true := by simp; omega
  refine calls_has (args := [.agg (x.cells u).toArray]) Try.func90 rfl Try.ntmps90 (Nat.le_of_ble_eq_true rfl) (fun a H => ?_)
  simp only [argl, Nat.reduceAdd] at H
  refine wp_seq_k (fun K1 hK1 => ?_)
  refine e_region (fun R hR => ?_)
  refine e_op H rfl rfl (by decide) (x_box H rfl rfl bx_new) ?_
  clear H a; intro a H
  have T := Blk.new w0 95 (x.cells u)
  have E := (Ext.refl w0).al (.cells (x.cells u).toArray 95)
  obtain ⟨g1, hg1⟩ : ∃ g, g = w0.heap.size := ⟨_, rfl⟩
  rw [← hg1] at H T
  generalize w0.alloc (.cells (x.cells u).toArray 95) = w1 at *
  refine e_op H rfl rfl (by decide) (x_assign H rfl rfl) ?_
  clear H a; intro a H
  refine e_nil (hR.out _ _ ?_)
  clear hR R
  refine hK1 _ _ ?_
  clear hK1 K1
  refine wp_seq_k (fun K2 hK2 => ?_)
  refine e_region (fun R hR => ?_)
  refine e_op H rfl rfl (by decide) (x_assign H rfl rfl) ?_
  clear H a; intro a H
  refine e_nil (hR.out _ _ ?_)
  clear hR R
  refine hK2 _ _ ?_
  clear hK2 K2
  refine wp_seq_k (fun K3 hK3 => ?_)
  refine wp_seq_k (fun K4 hK4 => ?_)
  refine e_region (fun R hR => ?_)
  refine e_op H rfl rfl (by decide) (x_fieldAddr H rfl rfl (fa95_3 _ _)) ?_
  clear H a; intro a H
  refine e_op H rfl rfl (by decide) (x_load H rfl rfl (l_cell Try.isAgg89 (T.at_ (rc_what hx.words)))) ?_
  clear H a; intro a H
  refine e_nil (hR.out _ _ ?_)
  clear hR R
  refine hK4 _ _ ?_
  clear hK4 K4
  refine wp_block ?_
  refine wp_seq_k (fun K5 hK5 => ?_)
  refine e_region (fun R hR => ?_)
  refine e_op H rfl rfl (by decide) (x_binI H rfl rfl rfl (b_eql (b := false) (h1))) ?_
  clear H a; intro a H
  refine e_op H rfl rfl (by decide) (x_assign H rfl rfl) ?_
  clear H a; intro a H
  refine e_nil (hR.out _ _ ?_)
  clear hR R
  refine hK5 _ _ ?_
  clear hK5 K5
  refine c_false H rfl ?_
  refine wp_seq_k (fun K6 hK6 => ?_)
  refine e_region (fun R hR => ?_)
  refine e_op H rfl rfl (by decide) (x_binI H rfl rfl rfl (b_eql (b := true) (h2))) ?_
  clear H a; intro a H
  refine e_op H rfl rfl (by decide) (x_assign H rfl rfl) ?_
  clear H a; intro a H
  refine e_nil (hR.out _ _ ?_)
  clear hR R
  refine hK6 _ _ ?_
  clear hK6 K6
  refine c_true H rfl ?_
  refine e_region (fun R hR => ?_)
  refine e_op H rfl rfl (by decide) (x_load H rfl rfl (ld_rec T hx.words)) ?_
  clear H a; intro a H
  refine e_callq H rfl rfl (by decide) rfl rfl (Try.call126 _) (bare_any x u w1 hx (hu.ext E)) ?_
  clear H a
  rintro e w2 ⟨rfl, E2⟩
  refine ⟨_, rfl, fun a H => ?_⟩
  rw [p0] at H
  refine e_op H rfl rfl (by decide) (x_move H rfl rfl) ?_
  clear H a; intro a H
  refine e_skip H (wanted_false H rfl rfl rfl rfl) rfl (by decide) ?_
  clear H a; intro a H
  refine e_skip H (wanted_false H rfl rfl rfl rfl) rfl (by decide) ?_
  clear H a; intro a H
  refine e_skip H (wanted_false H rfl rfl rfl rfl) rfl (by decide) ?_
  clear H a; intro a H
  refine e_op H rfl rfl (by decide) (x_pickF H rfl rfl rfl) ?_
  clear H a; intro a H
  refine e_op H rfl rfl (by decide) (x_move H rfl rfl) ?_
  clear H a; intro a H
  refine e_skip H (wanted_false H rfl rfl rfl rfl) rfl (by decide) ?_
  clear H a; intro a H
  refine e_skip H (wanted_false H rfl rfl rfl rfl) rfl (by decide) ?_
  clear H a; intro a H
  refine e_skip H (wanted_false H rfl rfl rfl rfl) rfl (by decide) ?_
  clear H a; intro a H
  refine e_skip H (wanted_false H rfl rfl rfl rfl) rfl (by decide) ?_
  clear H a; intro a H
  refine e_skip H (wanted_false H rfl rfl rfl rfl) rfl (by decide) ?_
  clear H a; intro a H
  refine e_skip H (wanted_false H rfl rfl rfl rfl) rfl (by decide) ?_
  clear H a; intro a H
  refine e_op H rfl rfl (by decide) (x_pickF H rfl rfl rfl) ?_
  clear H a; intro a H
  refine e_op H rfl rfl (by decide) (x_assign H rfl rfl) ?_
  clear H a; intro a H
  refine e_nil (hR.out _ _ ?_)
  clear hR R
  refine hK3 _ _ ?_
  clear hK3 K3
  refine wp_seq_k (fun K7 hK7 => ?_)
  refine wp_seq_k (fun K8 hK8 => ?_)
  refine e_region (fun R hR => ?_)
  refine e_op H rfl rfl (by decide) (x_move H rfl rfl) ?_
  clear H a; intro a H
  refine e_op H rfl rfl (by decide) (x_un H rfl rfl (u_not (c := true) (rfl))) ?_
  clear H a; intro a H
  refine e_op H rfl rfl (by decide) (x_move H rfl rfl) ?_
  clear H a; intro a H
  refine e_skip H (wanted_false H rfl rfl rfl rfl) rfl (by decide) ?_
  clear H a; intro a H
  refine e_skip H (wanted_false H rfl rfl rfl rfl) rfl (by decide) ?_
  clear H a; intro a H
  refine e_skip H (wanted_false H rfl rfl rfl rfl) rfl (by decide) ?_
  clear H a; intro a H
  refine e_skip H (wanted_false H rfl rfl rfl rfl) rfl (by decide) ?_
  clear H a; intro a H
  refine e_op H rfl rfl (by decide) (x_pickT H rfl rfl rfl) ?_
  clear H a; intro a H
  refine e_nil (hR.out _ _ ?_)
  clear hR R
  refine hK8 _ _ ?_
  clear hK8 K8
  refine c_true H rfl ?_
  refine wp_seq_k (fun K9 hK9 => ?_)
  refine e_region (fun R hR => ?_)
  refine e_op H rfl rfl (by decide) (x_assign H rfl rfl) ?_
  clear H a; intro a H
  refine e_nil (hR.out _ _ ?_)
  clear hR R
  refine hK9 _ _ ?_
  clear hK9 K9
  refine wp_ret ?_
  refine t_ret ?_
  exact ret1 H rfl rfl ⟨by rw [show x.good = false by unfold Rcd.good Rcd.good0; rw [if_neg (by omega), if_pos k2]; simp [p0]]; rfl, (E.tr E2)⟩
theorem chk5 (x : Rcd) (u : Value) (w0 : World) (hx : x.ok) (hu : Zl w0 u x.ev.args) (k2 : x.what = 2) (p0 : x.bare = true) (q1 : decide (0 < x.lost) = false) : Calls Try.prog 90 #[.agg (x.cells u).toArray] w0 fun e w' => e = .returned (.int .i64 (if x.good then 0 else 1)) ∧ Ext w0 w' := by
  have h1 : (((x.what : Nat) : Int) == 1) = false := by simp; omega
  have h2 : (((x.what : Nat) : Int) == 2) = true := by simp; omega
  have p1 : decide (((x.lost : Nat) : Int) > 0) = false := by rw [← q1]; exact decide_eq_decide.2 (by omega)
  refine calls_has (args := [.agg (x.cells u).toArray]) Try.func90 rfl Try.ntmps90 (Nat.le_of_ble_eq_true rfl) (fun a H => ?_)
  simp only [argl, Nat.reduceAdd] at H
  refine wp_seq_k (fun K1 hK1 => ?_)
  refine e_region (fun R hR => ?_)
  refine e_op H rfl rfl (by decide) (x_box H rfl rfl bx_new) ?_
  clear H a; intro a H
  have T := Blk.new w0 95 (x.cells u)
  have E := (Ext.refl w0).al (.cells (x.cells u).toArray 95)
  obtain ⟨g1, hg1⟩ : ∃ g, g = w0.heap.size := ⟨_, rfl⟩
  rw [← hg1] at H T
  generalize w0.alloc (.cells (x.cells u).toArray 95) = w1 at *
  refine e_op H rfl rfl (by decide) (x_assign H rfl rfl) ?_
  clear H a; intro a H
  refine e_nil (hR.out _ _ ?_)
  clear hR R
  refine hK1 _ _ ?_
  clear hK1 K1
  refine wp_seq_k (fun K2 hK2 => ?_)
  refine e_region (fun R hR => ?_)
  refine e_op H rfl rfl (by decide) (x_assign H rfl rfl) ?_
  clear H a; intro a H
  refine e_nil (hR.out _ _ ?_)
  clear hR R
  refine hK2 _ _ ?_
  clear hK2 K2
  refine wp_seq_k (fun K3 hK3 => ?_)
  refine wp_seq_k (fun K4 hK4 => ?_)
  refine e_region (fun R hR => ?_)
  refine e_op H rfl rfl (by decide) (x_fieldAddr H rfl rfl (fa95_3 _ _)) ?_
  clear H a; intro a H
  refine e_op H rfl rfl (by decide) (x_load H rfl rfl (l_cell Try.isAgg89 (T.at_ (rc_what hx.words)))) ?_
  clear H a; intro a H
  refine e_nil (hR.out _ _ ?_)
  clear hR R
  refine hK4 _ _ ?_
  clear hK4 K4
  refine wp_block ?_
  refine wp_seq_k (fun K5 hK5 => ?_)
  refine e_region (fun R hR => ?_)
  refine e_op H rfl rfl (by decide) (x_binI H rfl rfl rfl (b_eql (b := false) (h1))) ?_
  clear H a; intro a H
  refine e_op H rfl rfl (by decide) (x_assign H rfl rfl) ?_
  clear H a; intro a H
  refine e_nil (hR.out _ _ ?_)
  clear hR R
  refine hK5 _ _ ?_
  clear hK5 K5
  refine c_false H rfl ?_
  refine wp_seq_k (fun K6 hK6 => ?_)
  refine e_region (fun R hR => ?_)
  refine e_op H rfl rfl (by decide) (x_binI H rfl rfl rfl (b_eql (b := true) (h2))) ?_
  clear H a; intro a H
  refine e_op H rfl rfl (by decide) (x_assign H rfl rfl) ?_
  clear H a; intro a H
  refine e_nil (hR.out _ _ ?_)
  clear hR R
  refine hK6 _ _ ?_
  clear hK6 K6
  refine c_true H rfl ?_
  refine e_region (fun R hR => ?_)
  refine e_op H rfl rfl (by decide) (x_load H rfl rfl (ld_rec T hx.words)) ?_
  clear H a; intro a H
  refine e_callq H rfl rfl (by decide) rfl rfl (Try.call126 _) (bare_any x u w1 hx (hu.ext E)) ?_
  clear H a
  rintro e w2 ⟨rfl, E2⟩
  refine ⟨_, rfl, fun a H => ?_⟩
  rw [p0] at H
  refine e_op H rfl rfl (by decide) (x_move H rfl rfl) ?_
  clear H a; intro a H
  refine e_opg H (wanted_true H rfl rfl rfl rfl) rfl (by decide) (x_fieldAddr H rfl rfl (fa95_5 _ _)) ?_
  clear H a; intro a H
  refine e_opg H (wanted_true H rfl rfl rfl rfl) rfl (by decide) (x_load H rfl rfl (l_cell Try.isAgg56 ((T.ext E2).at_ (rc_lost hx.words)))) ?_
  clear H a; intro a H
  refine e_opg H (wanted_true H rfl rfl rfl rfl) rfl (by decide) (x_binI H rfl rfl rfl (b_gtr (b := false) (p1))) ?_
  clear H a; intro a H
  refine e_op H rfl rfl (by decide) (x_pickT H rfl rfl rfl) ?_
  clear H a; intro a H
  refine e_op H rfl rfl (by decide) (x_move H rfl rfl) ?_
  clear H a; intro a H
  refine e_skip H (wanted_false H rfl rfl rfl rfl) rfl (by decide) ?_
  clear H a; intro a H
  refine e_skip H (wanted_false H rfl rfl rfl rfl) rfl (by decide) ?_
  clear H a; intro a H
  refine e_skip H (wanted_false H rfl rfl rfl rfl) rfl (by decide) ?_
  clear H a; intro a H
  refine e_skip H (wanted_false H rfl rfl rfl rfl) rfl (by decide) ?_
  clear H a; intro a H
  refine e_skip H (wanted_false H rfl rfl rfl rfl) rfl (by decide) ?_
  clear H a; intro a H
  refine e_skip H (wanted_false H rfl rfl rfl rfl) rfl (by decide) ?_
  clear H a; intro a H
  refine e_op H rfl rfl (by decide) (x_pickF H rfl rfl rfl) ?_
  clear H a; intro a H
  refine e_op H rfl rfl (by decide) (x_assign H rfl rfl) ?_
  clear H a; intro a H
  refine e_nil (hR.out _ _ ?_)
  clear hR R
  refine hK3 _ _ ?_
  clear hK3 K3
  refine wp_seq_k (fun K7 hK7 => ?_)
  refine wp_seq_k (fun K8 hK8 => ?_)
  refine e_region (fun R hR => ?_)
  refine e_op H rfl rfl (by decide) (x_move H rfl rfl) ?_
  clear H a; intro a H
  refine e_op H rfl rfl (by decide) (x_un H rfl rfl (u_not (c := true) (rfl))) ?_
  clear H a; intro a H
  refine e_op H rfl rfl (by decide) (x_move H rfl rfl) ?_
  clear H a; intro a H
  refine e_skip H (wanted_false H rfl rfl rfl rfl) rfl (by decide) ?_
  clear H a; intro a H
  refine e_skip H (wanted_false H rfl rfl rfl rfl) rfl (by decide) ?_
  clear H a; intro a H
  refine e_skip H (wanted_false H rfl rfl rfl rfl) rfl (by decide) ?_
  clear H a; intro a H
  refine e_skip H (wanted_false H rfl rfl rfl rfl) rfl (by decide) ?_
  clear H a; intro a H
  refine e_op H rfl rfl (by decide) (x_pickT H rfl rfl rfl) ?_
  clear H a; intro a H
  refine e_nil (hR.out _ _ ?_)
  clear hR R
  refine hK8 _ _ ?_
  clear hK8 K8
  refine c_true H rfl ?_
  refine wp_seq_k (fun K9 hK9 => ?_)
  refine e_region (fun R hR => ?_)
  refine e_op H rfl rfl (by decide) (x_assign H rfl rfl) ?_
  clear H a; intro a H
  refine e_nil (hR.out _ _ ?_)
  clear hR R
  refine hK9 _ _ ?_
  clear hK9 K9
  refine wp_ret ?_
  refine t_ret ?_
  exact ret1 H rfl rfl ⟨by rw [show x.good = false by unfold Rcd.good Rcd.good0; rw [if_neg (by omega), if_pos k2]; simp [p0, q1]]; rfl, (E.tr E2)⟩
theorem chk6 (x : Rcd) (u : Value) (w0 : World) (hx : x.ok) (hu : Zl w0 u x.ev.args) (k2 : x.what = 2) (p0 : x.bare = true) (q1 : decide (0 < x.lost) = true) (q2 : decide (x.lost ≤ 18446744073709551615 - x.idx) = false) : Calls Try.prog 90 #[.agg (x.cells u).toArray] w0 fun e w' => e = .returned (.int .i64 (if x.good then 0 else 1)) ∧ Ext w0 w' := by
  have h1 : (((x.what : Nat) : Int) == 1) = false := by simp; omega
  have h2 : (((x.what : Nat) : Int) == 2) = true := by simp; omega
  have p1 : decide (((x.lost : Nat) : Int) > 0) = true := by rw [← q1]; exact decide_eq_decide.2 (by omega)
  have p2 : decide (((x.lost : Nat) : Int) ≤ ((18446744073709551615 - x.idx : Nat) : Int)) = false := by rw [← q2]; exact decide_eq_decide.2 (by omega)
  refine calls_has (args := [.agg (x.cells u).toArray]) Try.func90 rfl Try.ntmps90 (Nat.le_of_ble_eq_true rfl) (fun a H => ?_)
  simp only [argl, Nat.reduceAdd] at H
  refine wp_seq_k (fun K1 hK1 => ?_)
  refine e_region (fun R hR => ?_)
  refine e_op H rfl rfl (by decide) (x_box H rfl rfl bx_new) ?_
  clear H a; intro a H
  have T := Blk.new w0 95 (x.cells u)
  have E := (Ext.refl w0).al (.cells (x.cells u).toArray 95)
  obtain ⟨g1, hg1⟩ : ∃ g, g = w0.heap.size := ⟨_, rfl⟩
  rw [← hg1] at H T
  generalize w0.alloc (.cells (x.cells u).toArray 95) = w1 at *
  refine e_op H rfl rfl (by decide) (x_assign H rfl rfl) ?_
  clear H a; intro a H
  refine e_nil (hR.out _ _ ?_)
  clear hR R
  refine hK1 _ _ ?_
  clear hK1 K1
  refine wp_seq_k (fun K2 hK2 => ?_)
  refine e_region (fun R hR => ?_)
  refine e_op H rfl rfl (by decide) (x_assign H rfl rfl) ?_
  clear H a; intro a H
  refine e_nil (hR.out _ _ ?_)
  clear hR R
  refine hK2 _ _ ?_
  clear hK2 K2
  refine wp_seq_k (fun K3 hK3 => ?_)
  refine wp_seq_k (fun K4 hK4 => ?_)
  refine e_region (fun R hR => ?_)
  refine e_op H rfl rfl (by decide) (x_fieldAddr H rfl rfl (fa95_3 _ _)) ?_
  clear H a; intro a H
  refine e_op H rfl rfl (by decide) (x_load H rfl rfl (l_cell Try.isAgg89 (T.at_ (rc_what hx.words)))) ?_
  clear H a; intro a H
  refine e_nil (hR.out _ _ ?_)
  clear hR R
  refine hK4 _ _ ?_
  clear hK4 K4
  refine wp_block ?_
  refine wp_seq_k (fun K5 hK5 => ?_)
  refine e_region (fun R hR => ?_)
  refine e_op H rfl rfl (by decide) (x_binI H rfl rfl rfl (b_eql (b := false) (h1))) ?_
  clear H a; intro a H
  refine e_op H rfl rfl (by decide) (x_assign H rfl rfl) ?_
  clear H a; intro a H
  refine e_nil (hR.out _ _ ?_)
  clear hR R
  refine hK5 _ _ ?_
  clear hK5 K5
  refine c_false H rfl ?_
  refine wp_seq_k (fun K6 hK6 => ?_)
  refine e_region (fun R hR => ?_)
  refine e_op H rfl rfl (by decide) (x_binI H rfl rfl rfl (b_eql (b := true) (h2))) ?_
  clear H a; intro a H
  refine e_op H rfl rfl (by decide) (x_assign H rfl rfl) ?_
  clear H a; intro a H
  refine e_nil (hR.out _ _ ?_)
  clear hR R
  refine hK6 _ _ ?_
  clear hK6 K6
  refine c_true H rfl ?_
  refine e_region (fun R hR => ?_)
  refine e_op H rfl rfl (by decide) (x_load H rfl rfl (ld_rec T hx.words)) ?_
  clear H a; intro a H
  refine e_callq H rfl rfl (by decide) rfl rfl (Try.call126 _) (bare_any x u w1 hx (hu.ext E)) ?_
  clear H a
  rintro e w2 ⟨rfl, E2⟩
  refine ⟨_, rfl, fun a H => ?_⟩
  rw [p0] at H
  refine e_op H rfl rfl (by decide) (x_move H rfl rfl) ?_
  clear H a; intro a H
  refine e_opg H (wanted_true H rfl rfl rfl rfl) rfl (by decide) (x_fieldAddr H rfl rfl (fa95_5 _ _)) ?_
  clear H a; intro a H
  refine e_opg H (wanted_true H rfl rfl rfl rfl) rfl (by decide) (x_load H rfl rfl (l_cell Try.isAgg56 ((T.ext E2).at_ (rc_lost hx.words)))) ?_
  clear H a; intro a H
  refine e_opg H (wanted_true H rfl rfl rfl rfl) rfl (by decide) (x_binI H rfl rfl rfl (b_gtr (b := true) (p1))) ?_
  clear H a; intro a H
  refine e_op H rfl rfl (by decide) (x_pickT H rfl rfl rfl) ?_
  clear H a; intro a H
  refine e_op H rfl rfl (by decide) (x_move H rfl rfl) ?_
  clear H a; intro a H
  refine e_opg H (wanted_true H rfl rfl rfl rfl) rfl (by decide) (x_fieldAddr H rfl rfl (fa95_5 _ _)) ?_
  clear H a; intro a H
  refine e_opg H (wanted_true H rfl rfl rfl rfl) rfl (by decide) (x_load H rfl rfl (l_cell Try.isAgg56 ((T.ext E2).at_ (rc_lost hx.words)))) ?_
  clear H a; intro a H
  refine e_opg H (wanted_true H rfl rfl rfl rfl) rfl (by decide) (x_fieldAddr H rfl rfl (fa95_1 _ _)) ?_
  clear H a; intro a H
  refine e_opg H (wanted_true H rfl rfl rfl rfl) rfl (by decide) (x_load H rfl rfl (l_cell Try.isAgg56 ((T.ext E2).at_ (i := 1) rfl))) ?_
  clear H a; intro a H
  refine e_opg H (wanted_true H rfl rfl rfl rfl) rfl (by decide) (x_binI H rfl rfl rfl (b_sub (z := ((18446744073709551615 - x.idx : Nat) : Int)) (by have := hx.idx; rw [IntKind.wrap_u64]; omega))) ?_
  clear H a; intro a H
  refine e_opg H (wanted_true H rfl rfl rfl rfl) rfl (by decide) (x_binI H rfl rfl rfl (b_leq (b := false) (p2))) ?_
  clear H a; intro a H
  refine e_op H rfl rfl (by decide) (x_pickT H rfl rfl rfl) ?_
  clear H a; intro a H
  refine e_op H rfl rfl (by decide) (x_assign H rfl rfl) ?_
  clear H a; intro a H
  refine e_nil (hR.out _ _ ?_)
  clear hR R
  refine hK3 _ _ ?_
  clear hK3 K3
  refine wp_seq_k (fun K7 hK7 => ?_)
  refine wp_seq_k (fun K8 hK8 => ?_)
  refine e_region (fun R hR => ?_)
  refine e_op H rfl rfl (by decide) (x_move H rfl rfl) ?_
  clear H a; intro a H
  refine e_op H rfl rfl (by decide) (x_un H rfl rfl (u_not (c := true) (rfl))) ?_
  clear H a; intro a H
  refine e_op H rfl rfl (by decide) (x_move H rfl rfl) ?_
  clear H a; intro a H
  refine e_skip H (wanted_false H rfl rfl rfl rfl) rfl (by decide) ?_
  clear H a; intro a H
  refine e_skip H (wanted_false H rfl rfl rfl rfl) rfl (by decide) ?_
  clear H a; intro a H
  refine e_skip H (wanted_false H rfl rfl rfl rfl) rfl (by decide) ?_
  clear H a; intro a H
  refine e_skip H (wanted_false H rfl rfl rfl rfl) rfl (by decide) ?_
  clear H a; intro a H
  refine e_op H rfl rfl (by decide) (x_pickT H rfl rfl rfl) ?_
  clear H a; intro a H
  refine e_nil (hR.out _ _ ?_)
  clear hR R
  refine hK8 _ _ ?_
  clear hK8 K8
  refine c_true H rfl ?_
  refine wp_seq_k (fun K9 hK9 => ?_)
  refine e_region (fun R hR => ?_)
  refine e_op H rfl rfl (by decide) (x_assign H rfl rfl) ?_
  clear H a; intro a H
  refine e_nil (hR.out _ _ ?_)
  clear hR R
  refine hK9 _ _ ?_
  clear hK9 K9
  refine wp_ret ?_
  refine t_ret ?_
  exact ret1 H rfl rfl ⟨by rw [show x.good = false by unfold Rcd.good Rcd.good0; rw [if_neg (by omega), if_pos k2]; simp [p0, q1, q2]]; rfl, (E.tr E2)⟩
theorem chk7 (x : Rcd) (u : Value) (w0 : World) (hx : x.ok) (hu : Zl w0 u x.ev.args) (k2 : x.what = 2) (p0 : x.bare = true) (q1 : decide (0 < x.lost) = true) (q2 : decide (x.lost ≤ 18446744073709551615 - x.idx) = true) (pw : inN x.era 8 = true) : Calls Try.prog 90 #[.agg (x.cells u).toArray] w0 fun e w' => e = .returned (.int .i64 (if x.good then 0 else 1)) ∧ Ext w0 w' := by
  have h1 : (((x.what : Nat) : Int) == 1) = false := by simp; omega
  have h2 : (((x.what : Nat) : Int) == 2) = true := by simp; omega
  have p1 : decide (((x.lost : Nat) : Int) > 0) = true := by rw [← q1]; exact decide_eq_decide.2 (by omega)
  have p2 : decide (((x.lost : Nat) : Int) ≤ ((18446744073709551615 - x.idx : Nat) : Int)) = true := by rw [← q2]; exact decide_eq_decide.2 (by omega)
  refine calls_has (args := [.agg (x.cells u).toArray]) Try.func90 rfl Try.ntmps90 (Nat.le_of_ble_eq_true rfl) (fun a H => ?_)
  simp only [argl, Nat.reduceAdd] at H
  refine wp_seq_k (fun K1 hK1 => ?_)
  refine e_region (fun R hR => ?_)
  refine e_op H rfl rfl (by decide) (x_box H rfl rfl bx_new) ?_
  clear H a; intro a H
  have T := Blk.new w0 95 (x.cells u)
  have E := (Ext.refl w0).al (.cells (x.cells u).toArray 95)
  obtain ⟨g1, hg1⟩ : ∃ g, g = w0.heap.size := ⟨_, rfl⟩
  rw [← hg1] at H T
  generalize w0.alloc (.cells (x.cells u).toArray 95) = w1 at *
  refine e_op H rfl rfl (by decide) (x_assign H rfl rfl) ?_
  clear H a; intro a H
  refine e_nil (hR.out _ _ ?_)
  clear hR R
  refine hK1 _ _ ?_
  clear hK1 K1
  refine wp_seq_k (fun K2 hK2 => ?_)
  refine e_region (fun R hR => ?_)
  refine e_op H rfl rfl (by decide) (x_assign H rfl rfl) ?_
  clear H a; intro a H
  refine e_nil (hR.out _ _ ?_)
  clear hR R
  refine hK2 _ _ ?_
  clear hK2 K2
  refine wp_seq_k (fun K3 hK3 => ?_)
  refine wp_seq_k (fun K4 hK4 => ?_)
  refine e_region (fun R hR => ?_)
  refine e_op H rfl rfl (by decide) (x_fieldAddr H rfl rfl (fa95_3 _ _)) ?_
  clear H a; intro a H
  refine e_op H rfl rfl (by decide) (x_load H rfl rfl (l_cell Try.isAgg89 (T.at_ (rc_what hx.words)))) ?_
  clear H a; intro a H
  refine e_nil (hR.out _ _ ?_)
  clear hR R
  refine hK4 _ _ ?_
  clear hK4 K4
  refine wp_block ?_
  refine wp_seq_k (fun K5 hK5 => ?_)
  refine e_region (fun R hR => ?_)
  refine e_op H rfl rfl (by decide) (x_binI H rfl rfl rfl (b_eql (b := false) (h1))) ?_
  clear H a; intro a H
  refine e_op H rfl rfl (by decide) (x_assign H rfl rfl) ?_
  clear H a; intro a H
  refine e_nil (hR.out _ _ ?_)
  clear hR R
  refine hK5 _ _ ?_
  clear hK5 K5
  refine c_false H rfl ?_
  refine wp_seq_k (fun K6 hK6 => ?_)
  refine e_region (fun R hR => ?_)
  refine e_op H rfl rfl (by decide) (x_binI H rfl rfl rfl (b_eql (b := true) (h2))) ?_
  clear H a; intro a H
  refine e_op H rfl rfl (by decide) (x_assign H rfl rfl) ?_
  clear H a; intro a H
  refine e_nil (hR.out _ _ ?_)
  clear hR R
  refine hK6 _ _ ?_
  clear hK6 K6
  refine c_true H rfl ?_
  refine e_region (fun R hR => ?_)
  refine e_op H rfl rfl (by decide) (x_load H rfl rfl (ld_rec T hx.words)) ?_
  clear H a; intro a H
  refine e_callq H rfl rfl (by decide) rfl rfl (Try.call126 _) (bare_any x u w1 hx (hu.ext E)) ?_
  clear H a
  rintro e w2 ⟨rfl, E2⟩
  refine ⟨_, rfl, fun a H => ?_⟩
  rw [p0] at H
  refine e_op H rfl rfl (by decide) (x_move H rfl rfl) ?_
  clear H a; intro a H
  refine e_opg H (wanted_true H rfl rfl rfl rfl) rfl (by decide) (x_fieldAddr H rfl rfl (fa95_5 _ _)) ?_
  clear H a; intro a H
  refine e_opg H (wanted_true H rfl rfl rfl rfl) rfl (by decide) (x_load H rfl rfl (l_cell Try.isAgg56 ((T.ext E2).at_ (rc_lost hx.words)))) ?_
  clear H a; intro a H
  refine e_opg H (wanted_true H rfl rfl rfl rfl) rfl (by decide) (x_binI H rfl rfl rfl (b_gtr (b := true) (p1))) ?_
  clear H a; intro a H
  refine e_op H rfl rfl (by decide) (x_pickT H rfl rfl rfl) ?_
  clear H a; intro a H
  refine e_op H rfl rfl (by decide) (x_move H rfl rfl) ?_
  clear H a; intro a H
  refine e_opg H (wanted_true H rfl rfl rfl rfl) rfl (by decide) (x_fieldAddr H rfl rfl (fa95_5 _ _)) ?_
  clear H a; intro a H
  refine e_opg H (wanted_true H rfl rfl rfl rfl) rfl (by decide) (x_load H rfl rfl (l_cell Try.isAgg56 ((T.ext E2).at_ (rc_lost hx.words)))) ?_
  clear H a; intro a H
  refine e_opg H (wanted_true H rfl rfl rfl rfl) rfl (by decide) (x_fieldAddr H rfl rfl (fa95_1 _ _)) ?_
  clear H a; intro a H
  refine e_opg H (wanted_true H rfl rfl rfl rfl) rfl (by decide) (x_load H rfl rfl (l_cell Try.isAgg56 ((T.ext E2).at_ (i := 1) rfl))) ?_
  clear H a; intro a H
  refine e_opg H (wanted_true H rfl rfl rfl rfl) rfl (by decide) (x_binI H rfl rfl rfl (b_sub (z := ((18446744073709551615 - x.idx : Nat) : Int)) (by have := hx.idx; rw [IntKind.wrap_u64]; omega))) ?_
  clear H a; intro a H
  refine e_opg H (wanted_true H rfl rfl rfl rfl) rfl (by decide) (x_binI H rfl rfl rfl (b_leq (b := true) (p2))) ?_
  clear H a; intro a H
  refine e_op H rfl rfl (by decide) (x_pickT H rfl rfl rfl) ?_
  clear H a; intro a H
  refine e_op H rfl rfl (by decide) (x_assign H rfl rfl) ?_
  clear H a; intro a H
  refine e_nil (hR.out _ _ ?_)
  clear hR R
  refine hK3 _ _ ?_
  clear hK3 K3
  refine wp_seq_k (fun K7 hK7 => ?_)
  refine wp_seq_k (fun K8 hK8 => ?_)
  refine e_region (fun R hR => ?_)
  refine e_op H rfl rfl (by decide) (x_move H rfl rfl) ?_
  clear H a; intro a H
  refine e_op H rfl rfl (by decide) (x_un H rfl rfl (u_not (c := false) (rfl))) ?_
  clear H a; intro a H
  refine e_op H rfl rfl (by decide) (x_move H rfl rfl) ?_
  clear H a; intro a H
  refine e_opg H (wanted_true H rfl rfl rfl rfl) rfl (by decide) (x_fieldAddr H rfl rfl (fa95_0 _ _)) ?_
  clear H a; intro a H
  refine e_opg H (wanted_true H rfl rfl rfl rfl) rfl (by decide) (x_load H rfl rfl (l_cell Try.isAgg3 ((T.ext E2).at_ (i := 0) rfl))) ?_
  clear H a; intro a H
  refine e_callqg H (wanted_true H rfl rfl rfl rfl) rfl (by decide) rfl rfl (Try.call127 _) (within_is _ _ true pw _) ?_
  clear H a
  rintro e w9 ⟨rfl, rfl⟩
  refine ⟨_, rfl, fun a H => ?_⟩
  refine e_opg H (wanted_true H rfl rfl rfl rfl) rfl (by decide) (x_un H rfl rfl (u_not (c := false) (rfl))) ?_
  clear H a; intro a H
  refine e_op H rfl rfl (by decide) (x_pickF H rfl rfl rfl) ?_
  clear H a; intro a H
  refine e_nil (hR.out _ _ ?_)
  clear hR R
  refine hK8 _ _ ?_
  clear hK8 K8
  refine c_false H rfl ?_
  refine wp_skip ?_
  refine hK7 _ _ ?_
  clear hK7 K7
  refine wp_seq_k (fun K9 hK9 => ?_)
  refine e_region (fun R hR => ?_)
  refine e_op H rfl rfl (by decide) (x_assign H rfl rfl) ?_
  clear H a; intro a H
  refine e_nil (hR.out _ _ ?_)
  clear hR R
  refine hK9 _ _ ?_
  clear hK9 K9
  refine wp_ret ?_
  exact ret1 H rfl rfl ⟨by rw [show x.good = true by unfold Rcd.good Rcd.good0; rw [if_neg (by omega), if_pos k2]; simp [p0, q1, q2, pw]]; rfl, (E.tr E2)⟩
theorem chk8 (x : Rcd) (u : Value) (w0 : World) (hx : x.ok) (hu : Zl w0 u x.ev.args) (k2 : x.what = 2) (p0 : x.bare = true) (q1 : decide (0 < x.lost) = true) (q2 : decide (x.lost ≤ 18446744073709551615 - x.idx) = true) (pw : inN x.era 8 = false) : Calls Try.prog 90 #[.agg (x.cells u).toArray] w0 fun e w' => e = .returned (.int .i64 (if x.good then 0 else 1)) ∧ Ext w0 w' := by
  have h1 : (((x.what : Nat) : Int) == 1) = false := by simp; omega
  have h2 : (((x.what : Nat) : Int) == 2) = true := by simp; omega
  have p1 : decide (((x.lost : Nat) : Int) > 0) = true := by rw [← q1]; exact decide_eq_decide.2 (by omega)
  have p2 : decide (((x.lost : Nat) : Int) ≤ ((18446744073709551615 - x.idx : Nat) : Int)) = true := by rw [← q2]; exact decide_eq_decide.2 (by omega)
  refine calls_has (args := [.agg (x.cells u).toArray]) Try.func90 rfl Try.ntmps90 (Nat.le_of_ble_eq_true rfl) (fun a H => ?_)
  simp only [argl, Nat.reduceAdd] at H
  refine wp_seq_k (fun K1 hK1 => ?_)
  refine e_region (fun R hR => ?_)
  refine e_op H rfl rfl (by decide) (x_box H rfl rfl bx_new) ?_
  clear H a; intro a H
  have T := Blk.new w0 95 (x.cells u)
  have E := (Ext.refl w0).al (.cells (x.cells u).toArray 95)
  obtain ⟨g1, hg1⟩ : ∃ g, g = w0.heap.size := ⟨_, rfl⟩
  rw [← hg1] at H T
  generalize w0.alloc (.cells (x.cells u).toArray 95) = w1 at *
  refine e_op H rfl rfl (by decide) (x_assign H rfl rfl) ?_
  clear H a; intro a H
  refine e_nil (hR.out _ _ ?_)
  clear hR R
  refine hK1 _ _ ?_
  clear hK1 K1
  refine wp_seq_k (fun K2 hK2 => ?_)
  refine e_region (fun R hR => ?_)
  refine e_op H rfl rfl (by decide) (x_assign H rfl rfl) ?_
  clear H a; intro a H
  refine e_nil (hR.out _ _ ?_)
  clear hR R
  refine hK2 _ _ ?_
  clear hK2 K2
  refine wp_seq_k (fun K3 hK3 => ?_)
  refine wp_seq_k (fun K4 hK4 => ?_)
  refine e_region (fun R hR => ?_)
  refine e_op H rfl rfl (by decide) (x_fieldAddr H rfl rfl (fa95_3 _ _)) ?_
  clear H a; intro a H
  refine e_op H rfl rfl (by decide) (x_load H rfl rfl (l_cell Try.isAgg89 (T.at_ (rc_what hx.words)))) ?_
  clear H a; intro a H
  refine e_nil (hR.out _ _ ?_)
  clear hR R
  refine hK4 _ _ ?_
  clear hK4 K4
  refine wp_block ?_
  refine wp_seq_k (fun K5 hK5 => ?_)
  refine e_region (fun R hR => ?_)
  refine e_op H rfl rfl (by decide) (x_binI H rfl rfl rfl (b_eql (b := false) (h1))) ?_
  clear H a; intro a H
  refine e_op H rfl rfl (by decide) (x_assign H rfl rfl) ?_
  clear H a; intro a H
  refine e_nil (hR.out _ _ ?_)
  clear hR R
  refine hK5 _ _ ?_
  clear hK5 K5
  refine c_false H rfl ?_
  refine wp_seq_k (fun K6 hK6 => ?_)
  refine e_region (fun R hR => ?_)
  refine e_op H rfl rfl (by decide) (x_binI H rfl rfl rfl (b_eql (b := true) (h2))) ?_
  clear H a; intro a H
  refine e_op H rfl rfl (by decide) (x_assign H rfl rfl) ?_
  clear H a; intro a H
  refine e_nil (hR.out _ _ ?_)
  clear hR R
  refine hK6 _ _ ?_
  clear hK6 K6
  refine c_true H rfl ?_
  refine e_region (fun R hR => ?_)
  refine e_op H rfl rfl (by decide) (x_load H rfl rfl (ld_rec T hx.words)) ?_
  clear H a; intro a H
  refine e_callq H rfl rfl (by decide) rfl rfl (Try.call126 _) (bare_any x u w1 hx (hu.ext E)) ?_
  clear H a
  rintro e w2 ⟨rfl, E2⟩
  refine ⟨_, rfl, fun a H => ?_⟩
  rw [p0] at H
  refine e_op H rfl rfl (by decide) (x_move H rfl rfl) ?_
  clear H a; intro a H
  refine e_opg H (wanted_true H rfl rfl rfl rfl) rfl (by decide) (x_fieldAddr H rfl rfl (fa95_5 _ _)) ?_
  clear H a; intro a H
  refine e_opg H (wanted_true H rfl rfl rfl rfl) rfl (by decide) (x_load H rfl rfl (l_cell Try.isAgg56 ((T.ext E2).at_ (rc_lost hx.words)))) ?_
  clear H a; intro a H
  refine e_opg H (wanted_true H rfl rfl rfl rfl) rfl (by decide) (x_binI H rfl rfl rfl (b_gtr (b := true) (p1))) ?_
  clear H a; intro a H
  refine e_op H rfl rfl (by decide) (x_pickT H rfl rfl rfl) ?_
  clear H a; intro a H
  refine e_op H rfl rfl (by decide) (x_move H rfl rfl) ?_
  clear H a; intro a H
  refine e_opg H (wanted_true H rfl rfl rfl rfl) rfl (by decide) (x_fieldAddr H rfl rfl (fa95_5 _ _)) ?_
  clear H a; intro a H
  refine e_opg H (wanted_true H rfl rfl rfl rfl) rfl (by decide) (x_load H rfl rfl (l_cell Try.isAgg56 ((T.ext E2).at_ (rc_lost hx.words)))) ?_
  clear H a; intro a H
  refine e_opg H (wanted_true H rfl rfl rfl rfl) rfl (by decide) (x_fieldAddr H rfl rfl (fa95_1 _ _)) ?_
  clear H a; intro a H
  refine e_opg H (wanted_true H rfl rfl rfl rfl) rfl (by decide) (x_load H rfl rfl (l_cell Try.isAgg56 ((T.ext E2).at_ (i := 1) rfl))) ?_
  clear H a; intro a H
  refine e_opg H (wanted_true H rfl rfl rfl rfl) rfl (by decide) (x_binI H rfl rfl rfl (b_sub (z := ((18446744073709551615 - x.idx : Nat) : Int)) (by have := hx.idx; rw [IntKind.wrap_u64]; omega))) ?_
  clear H a; intro a H
  refine e_opg H (wanted_true H rfl rfl rfl rfl) rfl (by decide) (x_binI H rfl rfl rfl (b_leq (b := true) (p2))) ?_
  clear H a; intro a H
  refine e_op H rfl rfl (by decide) (x_pickT H rfl rfl rfl) ?_
  clear H a; intro a H
  refine e_op H rfl rfl (by decide) (x_assign H rfl rfl) ?_
  clear H a; intro a H
  refine e_nil (hR.out _ _ ?_)
  clear hR R
  refine hK3 _ _ ?_
  clear hK3 K3
  refine wp_seq_k (fun K7 hK7 => ?_)
  refine wp_seq_k (fun K8 hK8 => ?_)
  refine e_region (fun R hR => ?_)
  refine e_op H rfl rfl (by decide) (x_move H rfl rfl) ?_
  clear H a; intro a H
  refine e_op H rfl rfl (by decide) (x_un H rfl rfl (u_not (c := false) (rfl))) ?_
  clear H a; intro a H
  refine e_op H rfl rfl (by decide) (x_move H rfl rfl) ?_
  clear H a; intro a H
  refine e_opg H (wanted_true H rfl rfl rfl rfl) rfl (by decide) (x_fieldAddr H rfl rfl (fa95_0 _ _)) ?_
  clear H a; intro a H
  refine e_opg H (wanted_true H rfl rfl rfl rfl) rfl (by decide) (x_load H rfl rfl (l_cell Try.isAgg3 ((T.ext E2).at_ (i := 0) rfl))) ?_
  clear H a; intro a H
  refine e_callqg H (wanted_true H rfl rfl rfl rfl) rfl (by decide) rfl rfl (Try.call127 _) (within_is _ _ false pw _) ?_
  clear H a
  rintro e w9 ⟨rfl, rfl⟩
  refine ⟨_, rfl, fun a H => ?_⟩
  refine e_opg H (wanted_true H rfl rfl rfl rfl) rfl (by decide) (x_un H rfl rfl (u_not (c := true) (rfl))) ?_
  clear H a; intro a H
  refine e_op H rfl rfl (by decide) (x_pickF H rfl rfl rfl) ?_
  clear H a; intro a H
  refine e_nil (hR.out _ _ ?_)
  clear hR R
  refine hK8 _ _ ?_
  clear hK8 K8
  refine c_true H rfl ?_
  refine wp_seq_k (fun K9 hK9 => ?_)
  refine e_region (fun R hR => ?_)
  refine e_op H rfl rfl (by decide) (x_assign H rfl rfl) ?_
  clear H a; intro a H
  refine e_nil (hR.out _ _ ?_)
  clear hR R
  refine hK9 _ _ ?_
  clear hK9 K9
  refine wp_ret ?_
  refine t_ret ?_
  exact ret1 H rfl rfl ⟨by rw [show x.good = false by unfold Rcd.good Rcd.good0; rw [if_neg (by omega), if_pos k2]; simp [p0, q1, q2, pw]]; rfl, (E.tr E2)⟩
theorem chk9 (x : Rcd) (u : Value) (w0 : World) (hx : x.ok) (hu : Zl w0 u x.ev.args) (k3 : x.what = 3) (p0 : x.bare = false) : Calls Try.prog 90 #[.agg (x.cells u).toArray] w0 fun e w' => e = .returned (.int .i64 (if x.good then 0 else 1)) ∧ Ext w0 w' := by
  have h1 : (((x.what : Nat) : Int) == 1) = false := by simp; omega
  have h2 : (((x.what : Nat) : Int) == 2) = false := by simp; omega
  have h3 : (((x.what : Nat) : Int) == 3) = true := by simp; omega
  refine calls_has (args := [.agg (x.cells u).toArray]) Try.func90 rfl Try.ntmps90 (Nat.le_of_ble_eq_true rfl) (fun a H => ?_)
  simp only [argl, Nat.reduceAdd] at H
  refine wp_seq_k (fun K1 hK1 => ?_)
  refine e_region (fun R hR => ?_)
  refine e_op H rfl rfl (by decide) (x_box H rfl rfl bx_new) ?_
  clear H a; intro a H
  have T := Blk.new w0 95 (x.cells u)
  have E := (Ext.refl w0).al (.cells (x.cells u).toArray 95)
  obtain ⟨g1, hg1⟩ : ∃ g, g = w0.heap.size := ⟨_, rfl⟩
  rw [← hg1] at H T
  generalize w0.alloc (.cells (x.cells u).toArray 95) = w1 at *
  refine e_op H rfl rfl (by decide) (x_assign H rfl rfl) ?_
  clear H a; intro a H
  refine e_nil (hR.out _ _ ?_)
  clear hR R
  refine hK1 _ _ ?_
  clear hK1 K1
  refine wp_seq_k (fun K2 hK2 => ?_)
  refine e_region (fun R hR => ?_)
  refine e_op H rfl rfl (by decide) (x_assign H rfl rfl) ?_
  clear H a; intro a H
  refine e_nil (hR.out _ _ ?_)
  clear hR R
  refine hK2 _ _ ?_
  clear hK2 K2
  refine wp_seq_k (fun K3 hK3 => ?_)
  refine wp_seq_k (fun K4 hK4 => ?_)
  refine e_region (fun R hR => ?_)
  refine e_op H rfl rfl (by decide) (x_fieldAddr H rfl rfl (fa95_3 _ _)) ?_
  clear H a; intro a H
  refine e_op H rfl rfl (by decide) (x_load H rfl rfl (l_cell Try.isAgg89 (T.at_ (rc_what hx.words)))) ?_
  clear H a; intro a H
  refine e_nil (hR.out _ _ ?_)
  clear hR R
  refine hK4 _ _ ?_
  clear hK4 K4
  refine wp_block ?_
  refine wp_seq_k (fun K5 hK5 => ?_)
  refine e_region (fun R hR => ?_)
  refine e_op H rfl rfl (by decide) (x_binI H rfl rfl rfl (b_eql (b := false) (h1))) ?_
  clear H a; intro a H
  refine e_op H rfl rfl (by decide) (x_assign H rfl rfl) ?_
  clear H a; intro a H
  refine e_nil (hR.out _ _ ?_)
  clear hR R
  refine hK5 _ _ ?_
  clear hK5 K5
  refine c_false H rfl ?_
  refine wp_seq_k (fun K6 hK6 => ?_)
  refine e_region (fun R hR => ?_)
  refine e_op H rfl rfl (by decide) (x_binI H rfl rfl rfl (b_eql (b := false) (h2))) ?_
  clear H a; intro a H
  refine e_op H rfl rfl (by decide) (x_assign H rfl rfl) ?_
  clear H a; intro a H
  refine e_nil (hR.out _ _ ?_)
  clear hR R
  refine hK6 _ _ ?_
  clear hK6 K6
  refine c_false H rfl ?_
  refine wp_seq_k (fun K7 hK7 => ?_)
  refine e_region (fun R hR => ?_)
  refine e_op H rfl rfl (by decide) (x_binI H rfl rfl rfl (b_eql (b := true) (h3))) ?_
  clear H a; intro a H
  refine e_op H rfl rfl (by decide) (x_assign H rfl rfl) ?_
  clear H a; intro a H
  refine e_nil (hR.out _ _ ?_)
  clear hR R
  refine hK7 _ _ ?_
  clear hK7 K7
  refine c_true H rfl ?_
  refine e_region (fun R hR => ?_)
  refine e_op H rfl rfl (by decide) (x_load H rfl rfl (ld_rec T hx.words)) ?_
  clear H a; intro a H
  refine e_callq H rfl rfl (by decide) rfl rfl (Try.call126 _) (bare_any x u w1 hx (hu.ext E)) ?_
  clear H a
  rintro e w2 ⟨rfl, E2⟩
  refine ⟨_, rfl, fun a H => ?_⟩
  rw [p0] at H
  refine e_op H rfl rfl (by decide) (x_move H rfl rfl) ?_
  clear H a; intro a H
  refine e_skip H (wanted_false H rfl rfl rfl rfl) rfl (by decide) ?_
  clear H a; intro a H
  refine e_skip H (wanted_false H rfl rfl rfl rfl) rfl (by decide) ?_
  clear H a; intro a H
  refine e_skip H (wanted_false H rfl rfl rfl rfl) rfl (by decide) ?_
  clear H a; intro a H
  refine e_op H rfl rfl (by decide) (x_pickF H rfl rfl rfl) ?_
  clear H a; intro a H
  refine e_op H rfl rfl (by decide) (x_assign H rfl rfl) ?_
  clear H a; intro a H
  refine e_nil (hR.out _ _ ?_)
  clear hR R
  refine hK3 _ _ ?_
  clear hK3 K3
  refine wp_seq_k (fun K8 hK8 => ?_)
  refine wp_seq_k (fun K9 hK9 => ?_)
  refine e_region (fun R hR => ?_)
  refine e_op H rfl rfl (by decide) (x_move H rfl rfl) ?_
  clear H a; intro a H
  refine e_op H rfl rfl (by decide) (x_un H rfl rfl (u_not (c := true) (rfl))) ?_
  clear H a; intro a H
  refine e_op H rfl rfl (by decide) (x_move H rfl rfl) ?_
  clear H a; intro a H
  refine e_skip H (wanted_false H rfl rfl rfl rfl) rfl (by decide) ?_
  clear H a; intro a H
  refine e_skip H (wanted_false H rfl rfl rfl rfl) rfl (by decide) ?_
  clear H a; intro a H
  refine e_skip H (wanted_false H rfl rfl rfl rfl) rfl (by decide) ?_
  clear H a; intro a H
  refine e_skip H (wanted_false H rfl rfl rfl rfl) rfl (by decide) ?_
  clear H a; intro a H
  refine e_op H rfl rfl (by decide) (x_pickT H rfl rfl rfl) ?_
  clear H a; intro a H
  refine e_nil (hR.out _ _ ?_)
  clear hR R
  refine hK9 _ _ ?_
  clear hK9 K9
  refine c_true H rfl ?_
  refine wp_seq_k (fun K10 hK10 => ?_)
  refine e_region (fun R hR => ?_)
  refine e_op H rfl rfl (by decide) (x_assign H rfl rfl) ?_
  clear H a; intro a H
  refine e_nil (hR.out _ _ ?_)
  clear hR R
  refine hK10 _ _ ?_
  clear hK10 K10
  refine wp_ret ?_
  refine t_ret ?_
  exact ret1 H rfl rfl ⟨by rw [show x.good = false by unfold Rcd.good Rcd.good0; rw [if_neg (by omega), if_neg (by omega), if_pos k3]; simp [p0]]; rfl, (E.tr E2)⟩
theorem chk10 (x : Rcd) (u : Value) (w0 : World) (hx : x.ok) (hu : Zl w0 u x.ev.args) (k3 : x.what = 3) (p0 : x.bare = true) (q1 : decide (x.lost = 0) = false) : Calls Try.prog 90 #[.agg (x.cells u).toArray] w0 fun e w' => e = .returned (.int .i64 (if x.good then 0 else 1)) ∧ Ext w0 w' := by
  have h1 : (((x.what : Nat) : Int) == 1) = false := by simp; omega
  have h2 : (((x.what : Nat) : Int) == 2) = false := by simp; omega
  have h3 : (((x.what : Nat) : Int) == 3) = true := by simp; omega
  have p1 : (((x.lost : Nat) : Int) == 0) = false := by rw [← q1, Bool.eq_iff_iff]; simp
  refine calls_has (args := [.agg (x.cells u).toArray]) Try.func90 rfl Try.ntmps90 (Nat.le_of_ble_eq_true rfl) (fun a H => ?_)
  simp only [argl, Nat.reduceAdd] at H
  refine wp_seq_k (fun K1 hK1 => ?_)
  refine e_region (fun R hR => ?_)
  refine e_op H rfl rfl (by decide) (x_box H rfl rfl bx_new) ?_
  clear H a; intro a H
  have T := Blk.new w0 95 (x.cells u)
  have E := (Ext.refl w0).al (.cells (x.cells u).toArray 95)
  obtain ⟨g1, hg1⟩ : ∃ g, g = w0.heap.size := ⟨_, rfl⟩
  rw [← hg1] at H T
  generalize w0.alloc (.cells (x.cells u).toArray 95) = w1 at *
  refine e_op H rfl rfl (by decide) (x_assign H rfl rfl) ?_
  clear H a; intro a H
  refine e_nil (hR.out _ _ ?_)
  clear hR R
  refine hK1 _ _ ?_
  clear hK1 K1
  refine wp_seq_k (fun K2 hK2 => ?_)
  refine e_region (fun R hR => ?_)
  refine e_op H rfl rfl (by decide) (x_assign H rfl rfl) ?_
  clear H a; intro a H
  refine e_nil (hR.out _ _ ?_)
  clear hR R
  refine hK2 _ _ ?_
  clear hK2 K2
  refine wp_seq_k (fun K3 hK3 => ?_)
  refine wp_seq_k (fun K4 hK4 => ?_)
  refine e_region (fun R hR => ?_)
  refine e_op H rfl rfl (by decide) (x_fieldAddr H rfl rfl (fa95_3 _ _)) ?_
  clear H a; intro a H
  refine e_op H rfl rfl (by decide) (x_load H rfl rfl (l_cell Try.isAgg89 (T.at_ (rc_what hx.words)))) ?_
  clear H a; intro a H
  refine e_nil (hR.out _ _ ?_)
  clear hR R
  refine hK4 _ _ ?_
  clear hK4 K4
  refine wp_block ?_
  refine wp_seq_k (fun K5 hK5 => ?_)
  refine e_region (fun R hR => ?_)
  refine e_op H rfl rfl (by decide) (x_binI H rfl rfl rfl (b_eql (b := false) (h1))) ?_
  clear H a; intro a H
  refine e_op H rfl rfl (by decide) (x_assign H rfl rfl) ?_
  clear H a; intro a H
  refine e_nil (hR.out _ _ ?_)
  clear hR R
  refine hK5 _ _ ?_
  clear hK5 K5
  refine c_false H rfl ?_
  refine wp_seq_k (fun K6 hK6 => ?_)
  refine e_region (fun R hR => ?_)
  refine e_op H rfl rfl (by decide) (x_binI H rfl rfl rfl (b_eql (b := false) (h2))) ?_
  clear H a; intro a H
  refine e_op H rfl rfl (by decide) (x_assign H rfl rfl) ?_
  clear H a; intro a H
  refine e_nil (hR.out _ _ ?_)
  clear hR R
  refine hK6 _ _ ?_
  clear hK6 K6
  refine c_false H rfl ?_
  refine wp_seq_k (fun K7 hK7 => ?_)
  refine e_region (fun R hR => ?_)
  refine e_op H rfl rfl (by decide) (x_binI H rfl rfl rfl (b_eql (b := true) (h3))) ?_
  clear H a; intro a H
  refine e_op H rfl rfl (by decide) (x_assign H rfl rfl) ?_
  clear H a; intro a H
  refine e_nil (hR.out _ _ ?_)
  clear hR R
  refine hK7 _ _ ?_
  clear hK7 K7
  refine c_true H rfl ?_
  refine e_region (fun R hR => ?_)
  refine e_op H rfl rfl (by decide) (x_load H rfl rfl (ld_rec T hx.words)) ?_
  clear H a; intro a H
  refine e_callq H rfl rfl (by decide) rfl rfl (Try.call126 _) (bare_any x u w1 hx (hu.ext E)) ?_
  clear H a
  rintro e w2 ⟨rfl, E2⟩
  refine ⟨_, rfl, fun a H => ?_⟩
  rw [p0] at H
  refine e_op H rfl rfl (by decide) (x_move H rfl rfl) ?_
  clear H a; intro a H
  refine e_opg H (wanted_true H rfl rfl rfl rfl) rfl (by decide) (x_fieldAddr H rfl rfl (fa95_5 _ _)) ?_
  clear H a; intro a H
  refine e_opg H (wanted_true H rfl rfl rfl rfl) rfl (by decide) (x_load H rfl rfl (l_cell Try.isAgg56 ((T.ext E2).at_ (rc_lost hx.words)))) ?_
  clear H a; intro a H
  refine e_opg H (wanted_true H rfl rfl rfl rfl) rfl (by decide) (x_binI H rfl rfl rfl (b_eql (b := false) (p1))) ?_
  clear H a; intro a H
  refine e_op H rfl rfl (by decide) (x_pickT H rfl rfl rfl) ?_
  clear H a; intro a H
  refine e_op H rfl rfl (by decide) (x_assign H rfl rfl) ?_
  clear H a; intro a H
  refine e_nil (hR.out _ _ ?_)
  clear hR R
  refine hK3 _ _ ?_
  clear hK3 K3
  refine wp_seq_k (fun K8 hK8 => ?_)
  refine wp_seq_k (fun K9 hK9 => ?_)
  refine e_region (fun R hR => ?_)
  refine e_op H rfl rfl (by decide) (x_move H rfl rfl) ?_
  clear H a; intro a H
  refine e_op H rfl rfl (by decide) (x_un H rfl rfl (u_not (c := true) (rfl))) ?_
  clear H a; intro a H
  refine e_op H rfl rfl (by decide) (x_move H rfl rfl) ?_
  clear H a; intro a H
  refine e_skip H (wanted_false H rfl rfl rfl rfl) rfl (by decide) ?_
  clear H a; intro a H
  refine e_skip H (wanted_false H rfl rfl rfl rfl) rfl (by decide) ?_
  clear H a; intro a H
  refine e_skip H (wanted_false H rfl rfl rfl rfl) rfl (by decide) ?_
  clear H a; intro a H
  refine e_skip H (wanted_false H rfl rfl rfl rfl) rfl (by decide) ?_
  clear H a; intro a H
  refine e_op H rfl rfl (by decide) (x_pickT H rfl rfl rfl) ?_
  clear H a; intro a H
  refine e_nil (hR.out _ _ ?_)
  clear hR R
  refine hK9 _ _ ?_
  clear hK9 K9
  refine c_true H rfl ?_
  refine wp_seq_k (fun K10 hK10 => ?_)
  refine e_region (fun R hR => ?_)
  refine e_op H rfl rfl (by decide) (x_assign H rfl rfl) ?_
  clear H a; intro a H
  refine e_nil (hR.out _ _ ?_)
  clear hR R
  refine hK10 _ _ ?_
  clear hK10 K10
  refine wp_ret ?_
  refine t_ret ?_
  exact ret1 H rfl rfl ⟨by rw [show x.good = false by unfold Rcd.good Rcd.good0; rw [if_neg (by omega), if_neg (by omega), if_pos k3]; simp [p0, q1]]; rfl, (E.tr E2)⟩
theorem chk11 (x : Rcd) (u : Value) (w0 : World) (hx : x.ok) (hu : Zl w0 u x.ev.args) (k3 : x.what = 3) (p0 : x.bare = true) (q1 : decide (x.lost = 0) = true) (pw : inN x.era 8 = true) : Calls Try.prog 90 #[.agg (x.cells u).toArray] w0 fun e w' => e = .returned (.int .i64 (if x.good then 0 else 1)) ∧ Ext w0 w' := by
  have h1 : (((x.what : Nat) : Int) == 1) = false := by simp; omega
  have h2 : (((x.what : Nat) : Int) == 2) = false := by simp; omega
  have h3 : (((x.what : Nat) : Int) == 3) = true := by simp; omega
  have p1 : (((x.lost : Nat) : Int) == 0) = true := by rw [← q1, Bool.eq_iff_iff]; simp
  refine calls_has (args := [.agg (x.cells u).toArray]) Try.func90 rfl Try.ntmps90 (Nat.le_of_ble_eq_true rfl) (fun a H => ?_)
  simp only [argl, Nat.reduceAdd] at H
  refine wp_seq_k (fun K1 hK1 => ?_)
  refine e_region (fun R hR => ?_)
  refine e_op H rfl rfl (by decide) (x_box H rfl rfl bx_new) ?_
  clear H a; intro a H
  have T := Blk.new w0 95 (x.cells u)
  have E := (Ext.refl w0).al (.cells (x.cells u).toArray 95)
  obtain ⟨g1, hg1⟩ : ∃ g, g = w0.heap.size := ⟨_, rfl⟩
  rw [← hg1] at H T
  generalize w0.alloc (.cells (x.cells u).toArray 95) = w1 at *
  refine e_op H rfl rfl (by decide) (x_assign H rfl rfl) ?_
  clear H a; intro a H
  refine e_nil (hR.out _ _ ?_)
  clear hR R
  refine hK1 _ _ ?_
  clear hK1 K1
  refine wp_seq_k (fun K2 hK2 => ?_)
  refine e_region (fun R hR => ?_)
  refine e_op H rfl rfl (by decide) (x_assign H rfl rfl) ?_
  clear H a; intro a H
  refine e_nil (hR.out _ _ ?_)
  clear hR R
  refine hK2 _ _ ?_
  clear hK2 K2
  refine wp_seq_k (fun K3 hK3 => ?_)
  refine wp_seq_k (fun K4 hK4 => ?_)
  refine e_region (fun R hR => ?_)
  refine e_op H rfl rfl (by decide) (x_fieldAddr H rfl rfl (fa95_3 _ _)) ?_
  clear H a; intro a H
  refine e_op H rfl rfl (by decide) (x_load H rfl rfl (l_cell Try.isAgg89 (T.at_ (rc_what hx.words)))) ?_
  clear H a; intro a H
  refine e_nil (hR.out _ _ ?_)
  clear hR R
  refine hK4 _ _ ?_
  clear hK4 K4
  refine wp_block ?_
  refine wp_seq_k (fun K5 hK5 => ?_)
  refine e_region (fun R hR => ?_)
  refine e_op H rfl rfl (by decide) (x_binI H rfl rfl rfl (b_eql (b := false) (h1))) ?_
  clear H a; intro a H
  refine e_op H rfl rfl (by decide) (x_assign H rfl rfl) ?_
  clear H a; intro a H
  refine e_nil (hR.out _ _ ?_)
  clear hR R
  refine hK5 _ _ ?_
  clear hK5 K5
  refine c_false H rfl ?_
  refine wp_seq_k (fun K6 hK6 => ?_)
  refine e_region (fun R hR => ?_)
  refine e_op H rfl rfl (by decide) (x_binI H rfl rfl rfl (b_eql (b := false) (h2))) ?_
  clear H a; intro a H
  refine e_op H rfl rfl (by decide) (x_assign H rfl rfl) ?_
  clear H a; intro a H
  refine e_nil (hR.out _ _ ?_)
  clear hR R
  refine hK6 _ _ ?_
  clear hK6 K6
  refine c_false H rfl ?_
  refine wp_seq_k (fun K7 hK7 => ?_)
  refine e_region (fun R hR => ?_)
  refine e_op H rfl rfl (by decide) (x_binI H rfl rfl rfl (b_eql (b := true) (h3))) ?_
  clear H a; intro a H
  refine e_op H rfl rfl (by decide) (x_assign H rfl rfl) ?_
  clear H a; intro a H
  refine e_nil (hR.out _ _ ?_)
  clear hR R
  refine hK7 _ _ ?_
  clear hK7 K7
  refine c_true H rfl ?_
  refine e_region (fun R hR => ?_)
  refine e_op H rfl rfl (by decide) (x_load H rfl rfl (ld_rec T hx.words)) ?_
  clear H a; intro a H
  refine e_callq H rfl rfl (by decide) rfl rfl (Try.call126 _) (bare_any x u w1 hx (hu.ext E)) ?_
  clear H a
  rintro e w2 ⟨rfl, E2⟩
  refine ⟨_, rfl, fun a H => ?_⟩
  rw [p0] at H
  refine e_op H rfl rfl (by decide) (x_move H rfl rfl) ?_
  clear H a; intro a H
  refine e_opg H (wanted_true H rfl rfl rfl rfl) rfl (by decide) (x_fieldAddr H rfl rfl (fa95_5 _ _)) ?_
  clear H a; intro a H
  refine e_opg H (wanted_true H rfl rfl rfl rfl) rfl (by decide) (x_load H rfl rfl (l_cell Try.isAgg56 ((T.ext E2).at_ (rc_lost hx.words)))) ?_
  clear H a; intro a H
  refine e_opg H (wanted_true H rfl rfl rfl rfl) rfl (by decide) (x_binI H rfl rfl rfl (b_eql (b := true) (p1))) ?_
  clear H a; intro a H
  refine e_op H rfl rfl (by decide) (x_pickT H rfl rfl rfl) ?_
  clear H a; intro a H
  refine e_op H rfl rfl (by decide) (x_assign H rfl rfl) ?_
  clear H a; intro a H
  refine e_nil (hR.out _ _ ?_)
  clear hR R
  refine hK3 _ _ ?_
  clear hK3 K3
  refine wp_seq_k (fun K8 hK8 => ?_)
  refine wp_seq_k (fun K9 hK9 => ?_)
  refine e_region (fun R hR => ?_)
  refine e_op H rfl rfl (by decide) (x_move H rfl rfl) ?_
  clear H a; intro a H
  refine e_op H rfl rfl (by decide) (x_un H rfl rfl (u_not (c := false) (rfl))) ?_
  clear H a; intro a H
  refine e_op H rfl rfl (by decide) (x_move H rfl rfl) ?_
  clear H a; intro a H
  refine e_opg H (wanted_true H rfl rfl rfl rfl) rfl (by decide) (x_fieldAddr H rfl rfl (fa95_0 _ _)) ?_
  clear H a; intro a H
  refine e_opg H (wanted_true H rfl rfl rfl rfl) rfl (by decide) (x_load H rfl rfl (l_cell Try.isAgg3 ((T.ext E2).at_ (i := 0) rfl))) ?_
  clear H a; intro a H
  refine e_callqg H (wanted_true H rfl rfl rfl rfl) rfl (by decide) rfl rfl (Try.call127 _) (within_is _ _ true pw _) ?_
  clear H a
  rintro e w9 ⟨rfl, rfl⟩
  refine ⟨_, rfl, fun a H => ?_⟩
  refine e_opg H (wanted_true H rfl rfl rfl rfl) rfl (by decide) (x_un H rfl rfl (u_not (c := false) (rfl))) ?_
  clear H a; intro a H
  refine e_op H rfl rfl (by decide) (x_pickF H rfl rfl rfl) ?_
  clear H a; intro a H
  refine e_nil (hR.out _ _ ?_)
  clear hR R
  refine hK9 _ _ ?_
  clear hK9 K9
  refine c_false H rfl ?_
  refine wp_skip ?_
  refine hK8 _ _ ?_
  clear hK8 K8
  refine wp_seq_k (fun K10 hK10 => ?_)
  refine e_region (fun R hR => ?_)
  refine e_op H rfl rfl (by decide) (x_assign H rfl rfl) ?_
  clear H a; intro a H
  refine e_nil (hR.out _ _ ?_)
  clear hR R
  refine hK10 _ _ ?_
  clear hK10 K10
  refine wp_ret ?_
  exact ret1 H rfl rfl ⟨by rw [show x.good = true by unfold Rcd.good Rcd.good0; rw [if_neg (by omega), if_neg (by omega), if_pos k3]; simp [p0, q1, pw]]; rfl, (E.tr E2)⟩
theorem chk12 (x : Rcd) (u : Value) (w0 : World) (hx : x.ok) (hu : Zl w0 u x.ev.args) (k3 : x.what = 3) (p0 : x.bare = true) (q1 : decide (x.lost = 0) = true) (pw : inN x.era 8 = false) : Calls Try.prog 90 #[.agg (x.cells u).toArray] w0 fun e w' => e = .returned (.int .i64 (if x.good then 0 else 1)) ∧ Ext w0 w' := by
  have h1 : (((x.what : Nat) : Int) == 1) = false := by simp; omega
  have h2 : (((x.what : Nat) : Int) == 2) = false := by simp; omega
  have h3 : (((x.what : Nat) : Int) == 3) = true := by simp; omega
  have p1 : (((x.lost : Nat) : Int) == 0) = true := by rw [← q1, Bool.eq_iff_iff]; simp
  refine calls_has (args := [.agg (x.cells u).toArray]) Try.func90 rfl Try.ntmps90 (Nat.le_of_ble_eq_true rfl) (fun a H => ?_)
  simp only [argl, Nat.reduceAdd] at H
  refine wp_seq_k (fun K1 hK1 => ?_)
  refine e_region (fun R hR => ?_)
  refine e_op H rfl rfl (by decide) (x_box H rfl rfl bx_new) ?_
  clear H a; intro a H
  have T := Blk.new w0 95 (x.cells u)
  have E := (Ext.refl w0).al (.cells (x.cells u).toArray 95)
  obtain ⟨g1, hg1⟩ : ∃ g, g = w0.heap.size := ⟨_, rfl⟩
  rw [← hg1] at H T
  generalize w0.alloc (.cells (x.cells u).toArray 95) = w1 at *
  refine e_op H rfl rfl (by decide) (x_assign H rfl rfl) ?_
  clear H a; intro a H
  refine e_nil (hR.out _ _ ?_)
  clear hR R
  refine hK1 _ _ ?_
  clear hK1 K1
  refine wp_seq_k (fun K2 hK2 => ?_)
  refine e_region (fun R hR => ?_)
  refine e_op H rfl rfl (by decide) (x_assign H rfl rfl) ?_
  clear H a; intro a H
  refine e_nil (hR.out _ _ ?_)
  clear hR R
  refine hK2 _ _ ?_
  clear hK2 K2
  refine wp_seq_k (fun K3 hK3 => ?_)
  refine wp_seq_k (fun K4 hK4 => ?_)
  refine e_region (fun R hR => ?_)
  refine e_op H rfl rfl (by decide) (x_fieldAddr H rfl rfl (fa95_3 _ _)) ?_
  clear H a; intro a H
  refine e_op H rfl rfl (by decide) (x_load H rfl rfl (l_cell Try.isAgg89 (T.at_ (rc_what hx.words)))) ?_
  clear H a; intro a H
  refine e_nil (hR.out _ _ ?_)
  clear hR R
  refine hK4 _ _ ?_
  clear hK4 K4
  refine wp_block ?_
  refine wp_seq_k (fun K5 hK5 => ?_)
  refine e_region (fun R hR => ?_)
  refine e_op H rfl rfl (by decide) (x_binI H rfl rfl rfl (b_eql (b := false) (h1))) ?_
  clear H a; intro a H
  refine e_op H rfl rfl (by decide) (x_assign H rfl rfl) ?_
  clear H a; intro a H
  refine e_nil (hR.out _ _ ?_)
  clear hR R
  refine hK5 _ _ ?_
  clear hK5 K5
  refine c_false H rfl ?_
  refine wp_seq_k (fun K6 hK6 => ?_)
  refine e_region (fun R hR => ?_)
  refine e_op H rfl rfl (by decide) (x_binI H rfl rfl rfl (b_eql (b := false) (h2))) ?_
  clear H a; intro a H
  refine e_op H rfl rfl (by decide) (x_assign H rfl rfl) ?_
  clear H a; intro a H
  refine e_nil (hR.out _ _ ?_)
  clear hR R
  refine hK6 _ _ ?_
  clear hK6 K6
  refine c_false H rfl ?_
  refine wp_seq_k (fun K7 hK7 => ?_)
  refine e_region (fun R hR => ?_)
  refine e_op H rfl rfl (by decide) (x_binI H rfl rfl rfl (b_eql (b := true) (h3))) ?_
  clear H a; intro a H
  refine e_op H rfl rfl (by decide) (x_assign H rfl rfl) ?_
  clear H a; intro a H
  refine e_nil (hR.out _ _ ?_)
  clear hR R
  refine hK7 _ _ ?_
  clear hK7 K7
  refine c_true H rfl ?_
  refine e_region (fun R hR => ?_)
  refine e_op H rfl rfl (by decide) (x_load H rfl rfl (ld_rec T hx.words)) ?_
  clear H a; intro a H
  refine e_callq H rfl rfl (by decide) rfl rfl (Try.call126 _) (bare_any x u w1 hx (hu.ext E)) ?_
  clear H a
  rintro e w2 ⟨rfl, E2⟩
  refine ⟨_, rfl, fun a H => ?_⟩
  rw [p0] at H
  refine e_op H rfl rfl (by decide) (x_move H rfl rfl) ?_
  clear H a; intro a H
  refine e_opg H (wanted_true H rfl rfl rfl rfl) rfl (by decide) (x_fieldAddr H rfl rfl (fa95_5 _ _)) ?_
  clear H a; intro a H
  refine e_opg H (wanted_true H rfl rfl rfl rfl) rfl (by decide) (x_load H rfl rfl (l_cell Try.isAgg56 ((T.ext E2).at_ (rc_lost hx.words)))) ?_
  clear H a; intro a H
  refine e_opg H (wanted_true H rfl rfl rfl rfl) rfl (by decide) (x_binI H rfl rfl rfl (b_eql (b := true) (p1))) ?_
  clear H a; intro a H
  refine e_op H rfl rfl (by decide) (x_pickT H rfl rfl rfl) ?_
  clear H a; intro a H
  refine e_op H rfl rfl (by decide) (x_assign H rfl rfl) ?_
  clear H a; intro a H
  refine e_nil (hR.out _ _ ?_)
  clear hR R
  refine hK3 _ _ ?_
  clear hK3 K3
  refine wp_seq_k (fun K8 hK8 => ?_)
  refine wp_seq_k (fun K9 hK9 => ?_)
  refine e_region (fun R hR => ?_)
  refine e_op H rfl rfl (by decide) (x_move H rfl rfl) ?_
  clear H a; intro a H
  refine e_op H rfl rfl (by decide) (x_un H rfl rfl (u_not (c := false) (rfl))) ?_
  clear H a; intro a H
  refine e_op H rfl rfl (by decide) (x_move H rfl rfl) ?_
  clear H a; intro a H
  refine e_opg H (wanted_true H rfl rfl rfl rfl) rfl (by decide) (x_fieldAddr H rfl rfl (fa95_0 _ _)) ?_
  clear H a; intro a H
  refine e_opg H (wanted_true H rfl rfl rfl rfl) rfl (by decide) (x_load H rfl rfl (l_cell Try.isAgg3 ((T.ext E2).at_ (i := 0) rfl))) ?_
  clear H a; intro a H
  refine e_callqg H (wanted_true H rfl rfl rfl rfl) rfl (by decide) rfl rfl (Try.call127 _) (within_is _ _ false pw _) ?_
  clear H a
  rintro e w9 ⟨rfl, rfl⟩
  refine ⟨_, rfl, fun a H => ?_⟩
  refine e_opg H (wanted_true H rfl rfl rfl rfl) rfl (by decide) (x_un H rfl rfl (u_not (c := true) (rfl))) ?_
  clear H a; intro a H
  refine e_op H rfl rfl (by decide) (x_pickF H rfl rfl rfl) ?_
  clear H a; intro a H
  refine e_nil (hR.out _ _ ?_)
  clear hR R
  refine hK9 _ _ ?_
  clear hK9 K9
  refine c_true H rfl ?_
  refine wp_seq_k (fun K10 hK10 => ?_)
  refine e_region (fun R hR => ?_)
  refine e_op H rfl rfl (by decide) (x_assign H rfl rfl) ?_
  clear H a; intro a H
  refine e_nil (hR.out _ _ ?_)
  clear hR R
  refine hK10 _ _ ?_
  clear hK10 K10
  refine wp_ret ?_
  refine t_ret ?_
  exact ret1 H rfl rfl ⟨by rw [show x.good = false by unfold Rcd.good Rcd.good0; rw [if_neg (by omega), if_neg (by omega), if_pos k3]; simp [p0, q1, pw]]; rfl, (E.tr E2)⟩
theorem chk13 (x : Rcd) (u : Value) (w0 : World) (hx : x.ok) (hu : Zl w0 u x.ev.args) (k1 : ¬ x.what = 1) (k2 : ¬ x.what = 2) (k3 : ¬ x.what = 3) : Calls Try.prog 90 #[.agg (x.cells u).toArray] w0 fun e w' => e = .returned (.int .i64 (if x.good then 0 else 1)) ∧ Ext w0 w' := by
  have h1 : (((x.what : Nat) : Int) == 1) = false := by simp; omega
  have h2 : (((x.what : Nat) : Int) == 2) = false := by simp; omega
  have h3 : (((x.what : Nat) : Int) == 3) = false := by simp; omega
  refine calls_has (args := [.agg (x.cells u).toArray]) Try.func90 rfl Try.ntmps90 (Nat.le_of_ble_eq_true rfl) (fun a H => ?_)
  simp only [argl, Nat.reduceAdd] at H
  refine wp_seq_k (fun K1 hK1 => ?_)
  refine e_region (fun R hR => ?_)
  refine e_op H rfl rfl (by decide) (x_box H rfl rfl bx_new) ?_
  clear H a; intro a H
  have T := Blk.new w0 95 (x.cells u)
  have E := (Ext.refl w0).al (.cells (x.cells u).toArray 95)
  obtain ⟨g1, hg1⟩ : ∃ g, g = w0.heap.size := ⟨_, rfl⟩
  rw [← hg1] at H T
  generalize w0.alloc (.cells (x.cells u).toArray 95) = w1 at *
  refine e_op H rfl rfl (by decide) (x_assign H rfl rfl) ?_
  clear H a; intro a H
  refine e_nil (hR.out _ _ ?_)
  clear hR R
  refine hK1 _ _ ?_
  clear hK1 K1
  refine wp_seq_k (fun K2 hK2 => ?_)
  refine e_region (fun R hR => ?_)
  refine e_op H rfl rfl (by decide) (x_assign H rfl rfl) ?_
  clear H a; intro a H
  refine e_nil (hR.out _ _ ?_)
  clear hR R
  refine hK2 _ _ ?_
  clear hK2 K2
  refine wp_seq_k (fun K3 hK3 => ?_)
  refine wp_seq_k (fun K4 hK4 => ?_)
  refine e_region (fun R hR => ?_)
  refine e_op H rfl rfl (by decide) (x_fieldAddr H rfl rfl (fa95_3 _ _)) ?_
  clear H a; intro a H
  refine e_op H rfl rfl (by decide) (x_load H rfl rfl (l_cell Try.isAgg89 (T.at_ (rc_what hx.words)))) ?_
  clear H a; intro a H
  refine e_nil (hR.out _ _ ?_)
  clear hR R
  refine hK4 _ _ ?_
  clear hK4 K4
  refine wp_block ?_
  refine wp_seq_k (fun K5 hK5 => ?_)
  refine e_region (fun R hR => ?_)
  refine e_op H rfl rfl (by decide) (x_binI H rfl rfl rfl (b_eql (b := false) (h1))) ?_
  clear H a; intro a H
  refine e_op H rfl rfl (by decide) (x_assign H rfl rfl) ?_
  clear H a; intro a H
  refine e_nil (hR.out _ _ ?_)
  clear hR R
  refine hK5 _ _ ?_
  clear hK5 K5
  refine c_false H rfl ?_
  refine wp_seq_k (fun K6 hK6 => ?_)
  refine e_region (fun R hR => ?_)
  refine e_op H rfl rfl (by decide) (x_binI H rfl rfl rfl (b_eql (b := false) (h2))) ?_
  clear H a; intro a H
  refine e_op H rfl rfl (by decide) (x_assign H rfl rfl) ?_
  clear H a; intro a H
  refine e_nil (hR.out _ _ ?_)
  clear hR R
  refine hK6 _ _ ?_
  clear hK6 K6
  refine c_false H rfl ?_
  refine wp_seq_k (fun K7 hK7 => ?_)
  refine e_region (fun R hR => ?_)
  refine e_op H rfl rfl (by decide) (x_binI H rfl rfl rfl (b_eql (b := false) (h3))) ?_
  clear H a; intro a H
  refine e_op H rfl rfl (by decide) (x_assign H rfl rfl) ?_
  clear H a; intro a H
  refine e_nil (hR.out _ _ ?_)
  clear hR R
  refine hK7 _ _ ?_
  clear hK7 K7
  refine c_false H rfl ?_
  refine wp_skip ?_
  refine hK3 _ _ ?_
  clear hK3 K3
  refine wp_seq_k (fun K8 hK8 => ?_)
  refine wp_seq_k (fun K9 hK9 => ?_)
  refine e_region (fun R hR => ?_)
  refine e_op H rfl rfl (by decide) (x_move H rfl rfl) ?_
  clear H a; intro a H
  refine e_op H rfl rfl (by decide) (x_un H rfl rfl (u_not (c := true) (rfl))) ?_
  clear H a; intro a H
  refine e_op H rfl rfl (by decide) (x_move H rfl rfl) ?_
  clear H a; intro a H
  refine e_skip H (wanted_false H rfl rfl rfl rfl) rfl (by decide) ?_
  clear H a; intro a H
  refine e_skip H (wanted_false H rfl rfl rfl rfl) rfl (by decide) ?_
  clear H a; intro a H
  refine e_skip H (wanted_false H rfl rfl rfl rfl) rfl (by decide) ?_
  clear H a; intro a H
  refine e_skip H (wanted_false H rfl rfl rfl rfl) rfl (by decide) ?_
  clear H a; intro a H
  refine e_op H rfl rfl (by decide) (x_pickT H rfl rfl rfl) ?_
  clear H a; intro a H
  refine e_nil (hR.out _ _ ?_)
  clear hR R
  refine hK9 _ _ ?_
  clear hK9 K9
  refine c_true H rfl ?_
  refine wp_seq_k (fun K10 hK10 => ?_)
  refine e_region (fun R hR => ?_)
  refine e_op H rfl rfl (by decide) (x_assign H rfl rfl) ?_
  clear H a; intro a H
  refine e_nil (hR.out _ _ ?_)
  clear hR R
  refine hK10 _ _ ?_
  clear hK10 K10
  refine wp_ret ?_
  refine t_ret ?_
  exact ret1 H rfl rfl ⟨by rw [show x.good = false by unfold Rcd.good Rcd.good0; rw [if_neg k1, if_neg k2, if_neg k3]; simp []]; rfl, E⟩
theorem check_any (x : Rcd) (u : Value) (w0 : World) (hx : x.ok) (hu : Zl w0 u x.ev.args) : Calls Try.prog 90 #[.agg (x.cells u).toArray] w0 fun e w' => e = .returned (.int .i64 (if x.good then 0 else 1)) ∧ Ext w0 w' := by
  by_cases k1 : x.what = 1
  · cases p0 : x.ev.good x.era with
    | false => exact chk0 x u w0 hx hu k1 p0
    | true =>
      cases q1 : decide (x.lost = 0) with
      | false => exact chk1 x u w0 hx hu k1 p0 q1
      | true =>
        cases pw : inN x.era 8 with
        | true => exact chk2 x u w0 hx hu k1 p0 q1 pw
        | false => exact chk3 x u w0 hx hu k1 p0 q1 pw
  by_cases k2 : x.what = 2
  · cases p0 : x.bare with
    | false => exact chk4 x u w0 hx hu k2 p0
    | true =>
      cases q1 : decide (0 < x.lost) with
      | false => exact chk5 x u w0 hx hu k2 p0 q1
      | true =>
        cases q2 : decide (x.lost ≤ 18446744073709551615 - x.idx) with
        | false => exact chk6 x u w0 hx hu k2 p0 q1 q2
        | true =>
          cases pw : inN x.era 8 with
          | true => exact chk7 x u w0 hx hu k2 p0 q1 q2 pw
          | false => exact chk8 x u w0 hx hu k2 p0 q1 q2 pw
  by_cases k3 : x.what = 3
  · cases p0 : x.bare with
    | false => exact chk9 x u w0 hx hu k3 p0
    | true =>
      cases q1 : decide (x.lost = 0) with
      | false => exact chk10 x u w0 hx hu k3 p0 q1
      | true =>
        cases pw : inN x.era 8 with
        | true => exact chk11 x u w0 hx hu k3 p0 q1 pw
        | false => exact chk12 x u w0 hx hu k3 p0 q1 pw
  exact chk13 x u w0 hx hu k1 k2 k3
end Go.Proofs.Ytknllmcpogoeoaa
