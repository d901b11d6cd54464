/- The reference's schedule, walked. -/
import Derived.Test.YtknllmcpogoeoaaDoorD6
namespace Go.Proofs.YtknllmcpogoeoaaDoor
open Go.RowKit
set_option linter.unusedVariables false
set_option linter.unusedSimpArgs false
set_option maxRecDepth 100000
/-- the first j bytes of word i -/
def wpart (b : List UInt8) (i : Nat) : Nat → Nat
  | 0 => 0
  | j + 1 => 256 * wpart b i j + bt b (4 * i + j)
theorem wpart_lt (b : List UInt8) (i j : Nat) (h : j ≤ 4) : wpart b i j < 256 ^ j ∧ (j < 4 → wpart b i j < 16777216) := by
  have k : ∀ j, wpart b i j < 256 ^ j := by
    intro j
    induction j with
    | zero => simp [wpart]
    | succ j ih => have := bt_lt b (4 * i + j); simp only [wpart, Nat.pow_succ]; omega
  refine ⟨k j, fun hj => ?_⟩
  have h1 := k j
  have h2 : 256 ^ j ≤ 256 ^ 3 := Nat.pow_le_pow_right (by omega) (by omega)
  omega
theorem wpart4 (b : List UInt8) (i : Nat) : (wpart b i 4 : Int) = wn (word b i) := by
  have h0 := bt_lt b (4 * i)
  have h1 := bt_lt b (4 * i + 1)
  have h2 := bt_lt b (4 * i + 2)
  have h3 := bt_lt b (4 * i + 3)
  unfold wn word
  rw [BitVec.toNat_ofNat]
  simp only [wpart, Nat.add_zero]
  omega
set_option maxHeartbeats 4000000 in
theorem schedule_any (bb bo c : Nat) (b : List UInt8) (w0 : World) (hb : Bs w0 (some ⟨bb, bo, none⟩) 64 b) :
    Calls Tryd.prog 41 #[.slice (some ⟨bb, bo, none⟩) 64 c] w0 fun e w' => ∃ g c2, e = .returned (.slice (some ⟨g, 0, none⟩) 64 c2) ∧ (∀ j, j < 64 → w'.cell? ⟨g, j, none⟩ = some (.int .u32 (wn (wat (sch b 48) j)))) ∧ Ext w0 w' := by
  have hcell : ∀ (k : Nat) (hk : k < 64) {w : World}, Ext w0 w → w.cell? ⟨bb, bo + k, none⟩ = some (.int .u8 (bt b k : Int)) := fun k hk {w} E => by
    obtain ⟨b', o', e, hc⟩ := (E.bs hb).cell k hk
    simp only [Option.some.injEq, Addr.mk.injEq] at e
    obtain ⟨rfl, rfl, _⟩ := e
    exact hc
  refine calls_has (args := [.slice (some ⟨bb, bo, none⟩) 64 c]) Tryd.func41 rfl Tryd.ntmps41 (Nat.le_of_ble_eq_true rfl) (fun a H => ?_)
  simp only [argl, Nat.reduceAdd] at H
  refine wp_seq_k (fun K1 hK1 => ?_)
  refine e_region (fun R hR => ?_)
  refine e_op H rfl rfl (by decide) (x_assign H rfl rfl) ?_
  clear H a; intro a H
  refine e_nil (hR.out _ _ ?_)
  clear hR R
  refine hK1 _ _ ?_
  clear hK1 K1
  refine wp_seq_k (fun K2 hK2 => ?_)
  refine e_region (fun R hR => ?_)
  refine e_op H rfl rfl (by decide) (x_assign H rfl rfl) ?_
  clear H a; intro a H
  refine e_nil (hR.out _ _ ?_)
  clear hR R
  refine hK2 _ _ ?_
  clear hK2 K2
  refine wp_seq_k (fun K3 hK3 => ?_)
  refine wp_seq_k (fun K4 hK4 => ?_)
  refine e_region (fun R hR => ?_)
  refine e_op H rfl rfl (by decide) (x_assign H rfl rfl) ?_
  clear H a; intro a H
  refine e_nil (hR.out _ _ ?_)
  clear hR R
  refine hK4 _ _ ?_
  clear hK4 K4
  refine wp_block ?_
  refine wp_loop_ghost (fun n a w => ∃ (i : Nat) (a3 : Option Addr) (c3 : Nat), i ≤ 16 ∧ n = 16 - i ∧ Has a 84 [(0, .slice (some ⟨bb, bo, none⟩) 64 c), (3, .slice a3 i c3), (4, .int .i64 (i : Int))] ∧ w.ownsRow w0.heap.size 66 1 (.slice a3 i c3) i (u32s (sch0 b i)) ∧ Ext w0 w) (16) ?_ ?_
  · skip
    exact ⟨0, none, 0, by omega, rfl, H.sub ⟨rfl, rfl, rfl, trivial⟩, World.ownsRow_nil _ _ _ _, Ext.refl _⟩
  · skip
    clear H a
    intro n a w hI
    obtain ⟨i, a3, c3, hi, rfl, H, O, E⟩ := hI
    obtain ⟨wi, rfl⟩ : ∃ wi, wi = w := ⟨_, rfl⟩
    rcases Nat.lt_or_ge i 16 with hlt | hge
    · skip
      skip
      refine wp_seq_k (fun K5 hK5 => ?_)
      refine wp_seq_k (fun K6 hK6 => ?_)
      refine e_region (fun R hR => ?_)
      refine e_op H rfl rfl (by decide) (x_move H rfl rfl) ?_
      clear H a; intro a H
      refine e_op H rfl rfl (by decide) (x_binI H rfl rfl rfl (b_lss (b := true) (dec_t (by omega)))) ?_
      clear H a; intro a H
      refine e_nil (hR.out _ _ ?_)
      clear hR R
      refine hK6 _ _ ?_
      clear hK6 K6
      refine c_true H rfl ?_
      refine wp_skip ?_
      refine hK5 _ _ ?_
      clear hK5 K5
      refine wp_seq_k (fun K7 hK7 => ?_)
      refine wp_block ?_
      refine wp_seq_k (fun K8 hK8 => ?_)
      refine e_region (fun R hR => ?_)
      refine e_op H rfl rfl (by decide) (x_assign H rfl rfl) ?_
      clear H a; intro a H
      refine e_nil (hR.out _ _ ?_)
      clear hR R
      refine hK8 _ _ ?_
      clear hK8 K8
      refine wp_seq_k (fun K9 hK9 => ?_)
      refine wp_seq_k (fun K10 hK10 => ?_)
      refine e_region (fun R hR => ?_)
      refine e_op H rfl rfl (by decide) (x_assign H rfl rfl) ?_
      clear H a; intro a H
      refine e_nil (hR.out _ _ ?_)
      clear hR R
      refine hK10 _ _ ?_
      clear hK10 K10
      refine wp_block ?_
      refine wp_loop_ghost (fun n a w => ∃ j : Nat, j ≤ 4 ∧ n = 4 - j ∧ Has a 84 [(0, .slice (some ⟨bb, bo, none⟩) 64 c), (3, .slice a3 i c3), (4, .int .i64 (i : Int)), (5, .int .u32 (wpart b i j : Int)), (6, .int .i64 (j : Int))] ∧ w = wi) (4) ?_ ?_
      · skip
        exact ⟨0, by omega, rfl, H.sub ⟨rfl, rfl, rfl, rfl, rfl, trivial⟩, rfl⟩
      · skip
        clear H a
        intro n a w hI
        obtain ⟨j, hj, rfl, H, rfl⟩ := hI
        have hwp := wpart_lt b i j hj
        rcases Nat.lt_or_ge j 4 with hlt2 | hge2
        · skip
          have hbt := bt_lt b (4 * i + j)
          refine wp_seq_k (fun K11 hK11 => ?_)
          refine wp_seq_k (fun K12 hK12 => ?_)
          refine e_region (fun R hR => ?_)
          refine e_op H rfl rfl (by decide) (x_move H rfl rfl) ?_
          clear H a; intro a H
          refine e_op H rfl rfl (by decide) (x_binI H rfl rfl rfl (b_lss (b := true) (dec_t (by omega)))) ?_
          clear H a; intro a H
          refine e_nil (hR.out _ _ ?_)
          clear hR R
          refine hK12 _ _ ?_
          clear hK12 K12
          refine c_true H rfl ?_
          refine wp_skip ?_
          refine hK11 _ _ ?_
          clear hK11 K11
          refine wp_seq_k (fun K13 hK13 => ?_)
          refine wp_block ?_
          refine e_region (fun R hR => ?_)
          refine e_op H rfl rfl (by decide) (x_move H rfl rfl) ?_
          clear H a; intro a H
          refine e_op H rfl rfl (by decide) (x_binI H rfl rfl rfl (b_mul (z := ((256 * wpart b i j : Nat) : Int)) (by rw [IntKind.wrap_u32]; omega))) ?_
          clear H a; intro a H
          refine e_op H rfl rfl (by decide) (x_move H rfl rfl) ?_
          clear H a; intro a H
          refine e_op H rfl rfl (by decide) (x_move H rfl rfl) ?_
          clear H a; intro a H
          refine e_op H rfl rfl (by decide) (x_binI H rfl rfl rfl (b_mul (z := ((4 * i : Nat) : Int)) (by rw [IntKind.wrap_i64]; omega))) ?_
          clear H a; intro a H
          refine e_op H rfl rfl (by decide) (x_move H rfl rfl) ?_
          clear H a; intro a H
          refine e_op H rfl rfl (by decide) (x_binI H rfl rfl rfl (b_add (z := ((4 * i + j : Nat) : Int)) (by rw [IntKind.wrap_i64]; omega))) ?_
          clear H a; intro a H
          refine e_op H rfl rfl (by decide) (x_indexAddr H rfl rfl rfl (i_sl (m := 4 * i + j) Tryd.underlying22 Tryd.sizeOf5 (rfl) (by omega))) ?_
          clear H a; intro a H
          refine e_op H rfl rfl (by decide) (x_load H rfl rfl (l_cell Tryd.isAgg5 ((hcell (4 * i + j) (by omega) E)))) ?_
          clear H a; intro a H
          refine e_op H rfl rfl (by decide) (x_conv H rfl rfl (c_int (z := (bt b (4 * i + j) : Int)) Tryd.underlying5 Tryd.underlying66 (wrap_u32_small _ (by omega) (by omega)))) ?_
          clear H a; intro a H
          refine e_op H rfl rfl (by decide) (x_binI H rfl rfl rfl (b_add (z := ((wpart b i (j + 1) : Nat) : Int)) (by rw [wrap_u32_small _ (by omega) (by omega)]; simp only [wpart]; omega))) ?_
          clear H a; intro a H
          refine e_op H rfl rfl (by decide) (x_assign H rfl rfl) ?_
          clear H a; intro a H
          refine e_nil (hR.out _ _ ?_)
          clear hR R
          refine hK13 _ _ ?_
          clear hK13 K13
          refine e_region (fun R hR => ?_)
          refine e_op H rfl rfl (by decide) (x_move H rfl rfl) ?_
          clear H a; intro a H
          refine e_op H rfl rfl (by decide) (x_binI H rfl rfl rfl (b_add (z := ((j + 1 : Nat) : Int)) (by rw [IntKind.wrap_i64]; omega))) ?_
          clear H a; intro a H
          refine e_op H rfl rfl (by decide) (x_assign H rfl rfl) ?_
          clear H a; intro a H
          refine e_nil (hR.out _ _ ?_)
          clear hR R
          exact ⟨4 - (j + 1), by omega, j + 1, by omega, rfl, H.sub ⟨rfl, rfl, rfl, rfl, rfl, trivial⟩, rfl⟩
        · skip
          obtain rfl : j = 4 := by omega
          rw [wpart4] at H
          refine wp_seq_k (fun K14 hK14 => ?_)
          refine wp_seq_k (fun K15 hK15 => ?_)
          refine e_region (fun R hR => ?_)
          refine e_op H rfl rfl (by decide) (x_move H rfl rfl) ?_
          clear H a; intro a H
          refine e_op H rfl rfl (by decide) (x_binI H rfl rfl rfl (b_lss (b := false) (dec_f (by omega)))) ?_
          clear H a; intro a H
          refine e_nil (hR.out _ _ ?_)
          clear hR R
          refine hK15 _ _ ?_
          clear hK15 K15
          refine c_false H rfl ?_
          refine wp_exit ?_
          refine t_exit ?_
          refine t_exit ?_
          refine b_hit ?_
          clear hK14 K14
          refine hK9 _ _ ?_
          clear hK9 K9
          refine e_region (fun R hR => ?_)
          refine e_op H rfl rfl (by decide) (x_move H rfl rfl) ?_
          clear H a; intro a H
          refine e_op H rfl rfl (by decide) (x_move H rfl rfl) ?_
          clear H a; intro a H
          refine e_op H rfl rfl (by decide) (x_buildSlice H rfl rfl (bsw _ _)) ?_
          clear H a; intro a H
          obtain ⟨g4, c4, w4, hr4, O4, G4⟩ := run_appE el69 (w.alloc (.cells #[.int .u32 (wn (word b i))] 66)) 69 w0.heap.size a3 (i) c3 _ w.heap.size 1 1 [.int .u32 (wn (word b i))] (row_al O _) rfl (fun j u h => by rw [World.cell?_alloc_at _ _ _ _ rfl]; simpa using h) (by intro u hu; rw [List.mem_singleton.1 hu]; rfl) (by omega) (by omega) (by have := E.sz; simp; omega) (by omega)
          have E4 := (E.al (.cells #[.int .u32 (wn (word b i))] 66)).app (row_al O _) (Nat.le_refl _) G4
          refine e_op H rfl rfl (by decide) (x_builtin H rfl rfl (fun cs => bi_app hr4)) ?_
          clear H a; intro a H
          refine e_op H rfl rfl (by decide) (x_assign H rfl rfl) ?_
          clear H a; intro a H
          refine e_nil (hR.out _ _ ?_)
          clear hR R
          refine hK7 _ _ ?_
          clear hK7 K7
          refine e_region (fun R hR => ?_)
          refine e_op H rfl rfl (by decide) (x_move H rfl rfl) ?_
          clear H a; intro a H
          refine e_op H rfl rfl (by decide) (x_binI H rfl rfl rfl (b_add (z := ((i + 1 : Nat) : Int)) (by rw [IntKind.wrap_i64]; omega))) ?_
          clear H a; intro a H
          refine e_op H rfl rfl (by decide) (x_assign H rfl rfl) ?_
          clear H a; intro a H
          refine e_nil (hR.out _ _ ?_)
          clear hR R
          refine ⟨16 - (i + 1), by omega, i + 1, some ⟨g4, 0, none⟩, c4, by omega, rfl, H.sub ⟨rfl, rfl, rfl, trivial⟩, ?_, E4⟩
          rw [sch0_succ, u32s_app]
          exact O4
    · skip
      obtain rfl : i = 16 := by omega
      refine wp_seq_k (fun K16 hK16 => ?_)
      refine wp_seq_k (fun K17 hK17 => ?_)
      refine e_region (fun R hR => ?_)
      refine e_op H rfl rfl (by decide) (x_move H rfl rfl) ?_
      clear H a; intro a H
      refine e_op H rfl rfl (by decide) (x_binI H rfl rfl rfl (b_lss (b := false) (dec_f (by omega)))) ?_
      clear H a; intro a H
      refine e_nil (hR.out _ _ ?_)
      clear hR R
      refine hK17 _ _ ?_
      clear hK17 K17
      refine c_false H rfl ?_
      refine wp_exit ?_
      refine t_exit ?_
      refine t_exit ?_
      refine b_hit ?_
      clear hK16 K16
      refine hK3 _ _ ?_
      clear hK3 K3
      refine wp_seq_k (fun K18 hK18 => ?_)
      refine wp_seq_k (fun K19 hK19 => ?_)
      refine e_region (fun R hR => ?_)
      refine e_op H rfl rfl (by decide) (x_assign H rfl rfl) ?_
      clear H a; intro a H
      refine e_nil (hR.out _ _ ?_)
      clear hR R
      refine hK19 _ _ ?_
      clear hK19 K19
      refine wp_block ?_
      refine wp_loop_ghost (fun n a w => ∃ (i : Nat) (a3 : Option Addr) (c3 : Nat), i ≤ 48 ∧ n = 48 - i ∧ Has a 84 [(3, .slice a3 (16 + i) c3), (7, .int .i64 ((16 + i : Nat) : Int))] ∧ w.ownsRow w0.heap.size 66 1 (.slice a3 (16 + i) c3) (16 + i) (u32s (sch b i)) ∧ Ext w0 w) (48) ?_ ?_
      · skip
        exact ⟨0, a3, c3, by omega, rfl, H.sub ⟨rfl, rfl, trivial⟩, O, E⟩
      · skip
        clear H a O E wi a3 c3
        intro n a w hI
        obtain ⟨i, a3, c3, hi, rfl, H, O, E⟩ := hI
        have hl := sch_len b i
        obtain ⟨gg, rfl, hgB, hc0⟩ := row_at O (by omega)
        have ld : ∀ j, j < 16 + i → w.cell? ⟨gg, j, none⟩ = some (.int .u32 (wn (wat (sch b i) j))) := fun j hj => by
          rw [hc0 j hj]
          exact u32s_get _ _ (by rw [hl]; exact hj)
        rcases Nat.lt_or_ge i 48 with hlt | hge
        · skip
          skip
          refine wp_seq_k (fun K20 hK20 => ?_)
          refine wp_seq_k (fun K21 hK21 => ?_)
          refine e_region (fun R hR => ?_)
          refine e_op H rfl rfl (by decide) (x_move H rfl rfl) ?_
          clear H a; intro a H
          refine e_op H rfl rfl (by decide) (x_binI H rfl rfl rfl (b_lss (b := true) (dec_t (by omega)))) ?_
          clear H a; intro a H
          refine e_nil (hR.out _ _ ?_)
          clear hR R
          refine hK21 _ _ ?_
          clear hK21 K21
          refine c_true H rfl ?_
          refine wp_skip ?_
          refine hK20 _ _ ?_
          clear hK20 K20
          refine wp_seq_k (fun K22 hK22 => ?_)
          refine wp_block ?_
          refine wp_seq_k (fun K23 hK23 => ?_)
          refine e_quiet (by kernel_rfl) (by kernel_rfl) (fun R hR => ?_)
          refine s_op H rfl rfl (by decide) (x_move H rfl rfl) ?_
          clear H a; intro a H
          refine s_op H rfl rfl (by decide) (x_move H rfl rfl) ?_
          clear H a; intro a H
          refine s_op H rfl rfl (by decide) (x_binI H rfl rfl rfl (b_sub (z := ((i + 1 : Nat) : Int)) (by rw [IntKind.wrap_i64]; omega))) ?_
          clear H a; intro a H
          refine s_op H rfl rfl (by decide) (x_indexAddr H rfl rfl rfl (i_sl0 (m := i + 1) Tryd.underlying69 Tryd.sizeOf66 rfl (by omega))) ?_
          clear H a; intro a H
          refine s_op H rfl rfl (by decide) (x_load H rfl rfl (l_cell Tryd.isAgg66 (ld (i + 1) (by omega)))) ?_
          clear H a; intro a H
          refine s_op H rfl rfl (by decide) (x_move H rfl rfl) ?_
          clear H a; intro a H
          refine s_op H rfl rfl (by decide) (x_move H rfl rfl) ?_
          clear H a; intro a H
          refine s_op H rfl rfl (by decide) (x_binI H rfl rfl rfl (b_sub (z := ((i + 14 : Nat) : Int)) (by rw [IntKind.wrap_i64]; omega))) ?_
          clear H a; intro a H
          refine s_op H rfl rfl (by decide) (x_indexAddr H rfl rfl rfl (i_sl0 (m := i + 14) Tryd.underlying69 Tryd.sizeOf66 rfl (by omega))) ?_
          clear H a; intro a H
          refine s_op H rfl rfl (by decide) (x_load H rfl rfl (l_cell Tryd.isAgg66 (ld (i + 14) (by omega)))) ?_
          clear H a; intro a H
          refine s_op H rfl rfl (by decide) (x_assign H rfl rfl) ?_
          clear H a; intro a H
          refine s_op H rfl rfl (by decide) (x_assign H rfl rfl) ?_
          clear H a; intro a H
          refine wpStill_nil (hR.out _ _ ?_)
          clear hR R
          obtain ⟨x, hx⟩ : ∃ x, x = wat (sch b i) (i + 1) := ⟨_, rfl⟩
          obtain ⟨y, hy⟩ : ∃ y, y = wat (sch b i) (i + 14) := ⟨_, rfl⟩
          rw [← hx, ← hy] at H
          refine hK23 _ _ ?_
          clear hK23 K23
          refine wp_seq_k (fun K24 hK24 => ?_)
          refine e_region (fun R hR => ?_)
          refine e_op H rfl rfl (by decide) (x_move H rfl rfl) ?_
          clear H a; intro a H
          refine e_callq H rfl rfl (by decide) rfl rfl (Tryd.call42 _) (rotr42_any x 7 _ (by omega) (by omega)) ?_
          clear H a
          rintro e w2 ⟨rfl, rfl⟩
          refine ⟨_, rfl, fun a H => ?_⟩
          refine e_op H rfl rfl (by decide) (x_move H rfl rfl) ?_
          clear H a; intro a H
          refine e_callq H rfl rfl (by decide) rfl rfl (Tryd.call42 _) (rotr42_any x 18 _ (by omega) (by omega)) ?_
          clear H a
          rintro e w2 ⟨rfl, rfl⟩
          refine ⟨_, rfl, fun a H => ?_⟩
          refine e_op H rfl rfl (by decide) (x_binI H rfl rfl rfl (b_xor (z := wn (rr x 7 ^^^ rr x 18)) (xor_wn _ _))) ?_
          clear H a; intro a H
          refine e_op H rfl rfl (by decide) (x_move H rfl rfl) ?_
          clear H a; intro a H
          refine e_op H rfl rfl (by decide) (x_binI H rfl rfl rfl (b_shr (z := wn (x >>> 3)) (by decide) (by rw [min_b32 (i := (3 : Int)) 3 rfl (by omega)]; exact shr_wn x 3))) ?_
          clear H a; intro a H
          refine e_op H rfl rfl (by decide) (x_binI H rfl rfl rfl (b_xor (z := wn (sg0 x)) (xor_wn _ _))) ?_
          clear H a; intro a H
          refine e_op H rfl rfl (by decide) (x_assign H rfl rfl) ?_
          clear H a; intro a H
          refine e_nil (hR.out _ _ ?_)
          clear hR R
          refine hK24 _ _ ?_
          clear hK24 K24
          refine wp_seq_k (fun K25 hK25 => ?_)
          refine e_region (fun R hR => ?_)
          refine e_op H rfl rfl (by decide) (x_move H rfl rfl) ?_
          clear H a; intro a H
          refine e_callq H rfl rfl (by decide) rfl rfl (Tryd.call42 _) (rotr42_any y 17 _ (by omega) (by omega)) ?_
          clear H a
          rintro e w2 ⟨rfl, rfl⟩
          refine ⟨_, rfl, fun a H => ?_⟩
          refine e_op H rfl rfl (by decide) (x_move H rfl rfl) ?_
          clear H a; intro a H
          refine e_callq H rfl rfl (by decide) rfl rfl (Tryd.call42 _) (rotr42_any y 19 _ (by omega) (by omega)) ?_
          clear H a
          rintro e w2 ⟨rfl, rfl⟩
          refine ⟨_, rfl, fun a H => ?_⟩
          refine e_op H rfl rfl (by decide) (x_binI H rfl rfl rfl (b_xor (z := wn (rr y 17 ^^^ rr y 19)) (xor_wn _ _))) ?_
          clear H a; intro a H
          refine e_op H rfl rfl (by decide) (x_move H rfl rfl) ?_
          clear H a; intro a H
          refine e_op H rfl rfl (by decide) (x_binI H rfl rfl rfl (b_shr (z := wn (y >>> 10)) (by decide) (by rw [min_b32 (i := (10 : Int)) 10 rfl (by omega)]; exact shr_wn y 10))) ?_
          clear H a; intro a H
          refine e_op H rfl rfl (by decide) (x_binI H rfl rfl rfl (b_xor (z := wn (sg1 y)) (xor_wn _ _))) ?_
          clear H a; intro a H
          refine e_op H rfl rfl (by decide) (x_assign H rfl rfl) ?_
          clear H a; intro a H
          refine e_nil (hR.out _ _ ?_)
          clear hR R
          have O' : w.drew.drew.drew.drew.drew.ownsRow w0.heap.size 66 1 (.slice (some ⟨gg, 0, none⟩) (16 + i) c3) (16 + i) (u32s (sch b i)) := O
          have ld' : ∀ j, j < 16 + i → w.drew.drew.drew.drew.drew.cell? ⟨gg, j, none⟩ = some (.int .u32 (wn (wat (sch b i) j))) := ld
          have E' := E.dr.dr.dr.dr.dr
          generalize w.drew.drew.drew.drew.drew = w5 at *
          refine hK25 _ _ ?_
          clear hK25 K25
          refine t_start (by kernel_rfl) (fun R hR => ?_)
          have O6 : w5.drew.ownsRow w0.heap.size 66 1 (.slice (some ⟨gg, 0, none⟩) (16 + i) c3) (16 + i) (u32s (sch b i)) := O'
          have E6 : Ext w0 w5.drew := E'.dr
          have ld' : ∀ j, j < 16 + i → w5.drew.cell? ⟨gg, j, none⟩ = some (.int .u32 (wn (wat (sch b i) j))) := ld'
          generalize w5.drew = w6 at *
          clear O' E'
          refine t_take 0 H rfl rfl rfl (by decide) (by kernel_rfl) (by kernel_rfl) (by kernel_rfl) (fun w' => (x_move H rfl rfl)) ?_
          clear H a; intro a H
          refine t_take 1 H rfl rfl rfl (by decide) (by kernel_rfl) (by kernel_rfl) (by kernel_rfl) (fun w' => (x_move H rfl rfl)) ?_
          clear H a; intro a H
          refine t_take 2 H rfl rfl rfl (by decide) (by kernel_rfl) (by kernel_rfl) (by kernel_rfl) (fun w' => (x_move H rfl rfl)) ?_
          clear H a; intro a H
          refine t_take 3 H rfl rfl rfl (by decide) (by kernel_rfl) (by kernel_rfl) (by kernel_rfl) (fun w' => (x_binI H rfl rfl rfl (b_sub (z := ((i : Nat) : Int)) (by rw [IntKind.wrap_i64]; omega)))) ?_
          clear H a; intro a H
          refine t_take 4 H rfl rfl rfl (by decide) (by kernel_rfl) (by kernel_rfl) (by kernel_rfl) (fun w' => (x_indexAddr H rfl rfl rfl (i_sl0 (m := i) Tryd.underlying69 Tryd.sizeOf66 rfl (by omega)))) ?_
          clear H a; intro a H
          refine t_take 6 H rfl rfl rfl (by decide) (by kernel_rfl) (by kernel_rfl) (by kernel_rfl) (fun w' => (x_move H rfl rfl)) ?_
          clear H a; intro a H
          refine t_take 8 H rfl rfl rfl (by decide) (by kernel_rfl) (by kernel_rfl) (by kernel_rfl) (fun w' => (x_move H rfl rfl)) ?_
          clear H a; intro a H
          refine t_take 9 H rfl rfl rfl (by decide) (by kernel_rfl) (by kernel_rfl) (by kernel_rfl) (fun w' => (x_move H rfl rfl)) ?_
          clear H a; intro a H
          refine t_take 10 H rfl rfl rfl (by decide) (by kernel_rfl) (by kernel_rfl) (by kernel_rfl) (fun w' => (x_binI H rfl rfl rfl (b_sub (z := ((i + 9 : Nat) : Int)) (by rw [IntKind.wrap_i64]; omega)))) ?_
          clear H a; intro a H
          refine t_take 11 H rfl rfl rfl (by decide) (by kernel_rfl) (by kernel_rfl) (by kernel_rfl) (fun w' => (x_indexAddr H rfl rfl rfl (i_sl0 (m := i + 9) Tryd.underlying69 Tryd.sizeOf66 rfl (by omega)))) ?_
          clear H a; intro a H
          refine t_take 14 H rfl rfl rfl (by decide) (by kernel_rfl) (by kernel_rfl) (by kernel_rfl) (fun w' => (x_move H rfl rfl)) ?_
          clear H a; intro a H
          refine t_two 5 12 H (by kernel_rfl) rfl (wanted_none rfl) rfl (by decide) (x_load H rfl rfl (l_cell Tryd.isAgg66 (ld' i (by omega)))) rfl (wanted_none rfl) rfl (by decide) (x_load H rfl rfl (l_cell Tryd.isAgg66 (ld' (i + 9) (by omega)))) ?_ ?_
          · skip
            clear H a; intro a H
            refine t_take 7 H rfl rfl rfl (by decide) (by kernel_rfl) (by kernel_rfl) (by kernel_rfl) (fun w' => (x_binI H rfl rfl rfl (b_add (z := wn (wat (sch b i) i + sg0 x)) (add_wn _ _)))) ?_
            clear H a; intro a H
            refine t_one 12 H rfl (by kernel_rfl) (wanted_none rfl) rfl (by decide) (x_load H rfl rfl (l_cell Tryd.isAgg66 (ld' (i + 9) (by omega)))) ?_
            clear H a; intro a H
            refine t_take 13 H rfl rfl rfl (by decide) (by kernel_rfl) (by kernel_rfl) (by kernel_rfl) (fun w' => (x_binI H rfl rfl rfl (b_add (z := wn (wat (sch b i) i + sg0 x + wat (sch b i) (i + 9))) (add_wn _ _)))) ?_
            clear H a; intro a H
            refine t_take 15 H rfl rfl rfl (by decide) (by kernel_rfl) (by kernel_rfl) (by kernel_rfl) (fun w' => (x_binI H rfl rfl rfl (b_add (z := wn (nxt (sch b i) i)) (by rw [hx, hy]; exact add_wn _ _)))) ?_
            clear H a; intro a H
            refine t_one 16 H rfl (by kernel_rfl) (wanted_none rfl) rfl (by decide) (x_buildSlice H rfl rfl (bsw _ _)) ?_
            clear H a; intro a H
            obtain ⟨g4, c4, w4, hr4, O4, G4⟩ := run_appE el69 (w6.alloc (.cells #[.int .u32 (wn (nxt (sch b i) i))] 66)) 69 w0.heap.size (some ⟨gg, 0, none⟩) (16 + i) c3 _ w6.heap.size 1 1 [.int .u32 (wn (nxt (sch b i) i))] (row_al O6 _) rfl (fun j u h => by rw [World.cell?_alloc_at _ _ _ _ rfl]; simpa using h) (by intro u hu; rw [List.mem_singleton.1 hu]; rfl) (by omega) (by omega) (by have := E6.sz; simp; omega) (by omega)
            have E4 := (E6.al (.cells #[.int .u32 (wn (nxt (sch b i) i))] 66)).app (row_al O6 _) (Nat.le_refl _) G4
            refine t_one 17 H rfl (by kernel_rfl) (wanted_none rfl) rfl (by decide) (x_builtin H rfl rfl (fun cs => bi_app hr4)) ?_
            clear H a; intro a H
            refine t_take 18 H rfl rfl rfl (by decide) (by kernel_rfl) (by kernel_rfl) (by kernel_rfl) (fun w' => (x_assign H rfl rfl)) ?_
            clear H a; intro a H
            refine t_done (by kernel_rfl) (hR.out _ _ ?_)
            clear hR R
            refine hK22 _ _ ?_
            clear hK22 K22
            refine e_region (fun R hR => ?_)
            refine e_op H rfl rfl (by decide) (x_move H rfl rfl) ?_
            clear H a; intro a H
            refine e_op H rfl rfl (by decide) (x_binI H rfl rfl rfl (b_add (z := ((16 + (i + 1) : Nat) : Int)) (by rw [IntKind.wrap_i64]; omega))) ?_
            clear H a; intro a H
            refine e_op H rfl rfl (by decide) (x_assign H rfl rfl) ?_
            clear H a; intro a H
            refine e_nil (hR.out _ _ ?_)
            clear hR R
            refine ⟨48 - (i + 1), by omega, i + 1, some ⟨g4, 0, none⟩, c4, by omega, rfl, H.sub ⟨rfl, rfl, trivial⟩, ?_, E4⟩
            rw [show sch b (i + 1) = sch b i ++ [nxt (sch b i) i] from rfl, u32s_app]
            exact O4
          · skip
            clear H a; intro a H
            refine t_one 5 H rfl (by kernel_rfl) (wanted_none rfl) rfl (by decide) (x_load H rfl rfl (l_cell Tryd.isAgg66 (ld' i (by omega)))) ?_
            clear H a; intro a H
            refine t_take 7 H rfl rfl rfl (by decide) (by kernel_rfl) (by kernel_rfl) (by kernel_rfl) (fun w' => (x_binI H rfl rfl rfl (b_add (z := wn (wat (sch b i) i + sg0 x)) (add_wn _ _)))) ?_
            clear H a; intro a H
            refine t_take 13 H rfl rfl rfl (by decide) (by kernel_rfl) (by kernel_rfl) (by kernel_rfl) (fun w' => (x_binI H rfl rfl rfl (b_add (z := wn (wat (sch b i) i + sg0 x + wat (sch b i) (i + 9))) (add_wn _ _)))) ?_
            clear H a; intro a H
            refine t_take 15 H rfl rfl rfl (by decide) (by kernel_rfl) (by kernel_rfl) (by kernel_rfl) (fun w' => (x_binI H rfl rfl rfl (b_add (z := wn (nxt (sch b i) i)) (by rw [hx, hy]; exact add_wn _ _)))) ?_
            clear H a; intro a H
            refine t_one 16 H rfl (by kernel_rfl) (wanted_none rfl) rfl (by decide) (x_buildSlice H rfl rfl (bsw _ _)) ?_
            clear H a; intro a H
            obtain ⟨g4, c4, w4, hr4, O4, G4⟩ := run_appE el69 (w6.alloc (.cells #[.int .u32 (wn (nxt (sch b i) i))] 66)) 69 w0.heap.size (some ⟨gg, 0, none⟩) (16 + i) c3 _ w6.heap.size 1 1 [.int .u32 (wn (nxt (sch b i) i))] (row_al O6 _) rfl (fun j u h => by rw [World.cell?_alloc_at _ _ _ _ rfl]; simpa using h) (by intro u hu; rw [List.mem_singleton.1 hu]; rfl) (by omega) (by omega) (by have := E6.sz; simp; omega) (by omega)
            have E4 := (E6.al (.cells #[.int .u32 (wn (nxt (sch b i) i))] 66)).app (row_al O6 _) (Nat.le_refl _) G4
            refine t_one 17 H rfl (by kernel_rfl) (wanted_none rfl) rfl (by decide) (x_builtin H rfl rfl (fun cs => bi_app hr4)) ?_
            clear H a; intro a H
            refine t_take 18 H rfl rfl rfl (by decide) (by kernel_rfl) (by kernel_rfl) (by kernel_rfl) (fun w' => (x_assign H rfl rfl)) ?_
            clear H a; intro a H
            refine t_done (by kernel_rfl) (hR.out _ _ ?_)
            clear hR R
            refine hK22 _ _ ?_
            clear hK22 K22
            refine e_region (fun R hR => ?_)
            refine e_op H rfl rfl (by decide) (x_move H rfl rfl) ?_
            clear H a; intro a H
            refine e_op H rfl rfl (by decide) (x_binI H rfl rfl rfl (b_add (z := ((16 + (i + 1) : Nat) : Int)) (by rw [IntKind.wrap_i64]; omega))) ?_
            clear H a; intro a H
            refine e_op H rfl rfl (by decide) (x_assign H rfl rfl) ?_
            clear H a; intro a H
            refine e_nil (hR.out _ _ ?_)
            clear hR R
            refine ⟨48 - (i + 1), by omega, i + 1, some ⟨g4, 0, none⟩, c4, by omega, rfl, H.sub ⟨rfl, rfl, trivial⟩, ?_, E4⟩
            rw [show sch b (i + 1) = sch b i ++ [nxt (sch b i) i] from rfl, u32s_app]
            exact O4
        · skip
          obtain rfl : i = 48 := by omega
          refine wp_seq_k (fun K26 hK26 => ?_)
          refine wp_seq_k (fun K27 hK27 => ?_)
          refine e_region (fun R hR => ?_)
          refine e_op H rfl rfl (by decide) (x_move H rfl rfl) ?_
          clear H a; intro a H
          refine e_op H rfl rfl (by decide) (x_binI H rfl rfl rfl (b_lss (b := false) (dec_f (by omega)))) ?_
          clear H a; intro a H
          refine e_nil (hR.out _ _ ?_)
          clear hR R
          refine hK27 _ _ ?_
          clear hK27 K27
          refine c_false H rfl ?_
          refine wp_exit ?_
          refine t_exit ?_
          refine t_exit ?_
          refine b_hit ?_
          clear hK26 K26
          refine hK18 _ _ ?_
          clear hK18 K18
          refine wp_seq_k (fun K28 hK28 => ?_)
          refine e_region (fun R hR => ?_)
          refine e_op H rfl rfl (by decide) (x_move H rfl rfl) ?_
          clear H a; intro a H
          refine e_op H rfl rfl (by decide) (x_assign H rfl rfl) ?_
          clear H a; intro a H
          refine e_nil (hR.out _ _ ?_)
          clear hR R
          refine hK28 _ _ ?_
          clear hK28 K28
          refine wp_ret ?_
          exact ret1 H rfl rfl ⟨gg, c3, rfl, ld, E⟩
end Go.Proofs.YtknllmcpogoeoaaDoor
