/- The reference's link; changed packets; files: walked. -/
import Derived.Test.YtknllmcpogoeoaaT11
namespace Go.Proofs.Ytknllmcpogoeoaa
open Go.RowKit
set_option linter.unusedVariables false
set_option linter.unusedSimpArgs false
set_option maxRecDepth 100000
section
variable {P : Program} {a : Act} {N : Nat} {l : List (Nat × Value)} {w : World}
theorem retc {fn : Func} {p : Nat} {ty t : TypeId} {R : Ending → World → Prop} {g : Nat} {cs : Array Value} {d : TypeDesc} (H : Has a N l) (hr : fn.results = #[.cell p ty]) (e : lk l p = some (.pointer (some ⟨g, 0, none⟩)))
    (hg : w.heap[g]? = some (.cells cs t (0, 0))) (hu : P.underlying ty = some d) (hd : (match d with | .struct _ | .array _ _ => true | _ => false) = true) (hi : (P.info? ty).map (·.size) = some cs.size)
    (h : R (.returned (.agg cs)) w) : bodyPost P fn R .ret a w :=
  bodyPost_ret (results_cell_row hr _ _ g t cs (0, 0) d (H.ev (x := .tmp p) e) hg hu hd hi) H.nod h
end
theorem made_b (n : Nat) : madeCells #[.bool false] n = (bools (List.replicate n false)).toArray := by
  apply Array.ext
  · simp [madeCells, bools]
  · intro i h1 h2
    simp [madeCells, bools, Nat.mod_one]
theorem mk_b {w : World} {i j : Int} {n : Nat} (hi : i = (n : Int)) (hj : j = (n : Int)) (h2 : n ≤ 1000000) :
    (Instr.makeSlice 152 (.int .i64 i) (.int .i64 j)).run Try.prog w = .ok (.slice (some ⟨w.heap.size, 0, none⟩) n n) (w.alloc (.cells (bools (List.replicate n false)).toArray 4)) := by
  subst hi hj
  obtain ⟨i0, hi, hz0, hz1, hz2⟩ := info_parts el152.info
  have h := run_make w 152 4 i0 (.bool false) Try.underlying152 hi hz0 .i64 .i64 (n : Int) (n : Int) (by omega) (by omega) (by rw [hz2]; omega) (by omega)
  rw [h, hz1]
  simp only [Int.toNat_natCast, Nat.mul_one]
  rw [show (Value.bool false).cells = #[.bool false] from rfl, made_b]
theorem Rw.fresh (w : World) (B n : Nat) (hB : B ≤ w.heap.size) (hn : n ≤ 1000000) : Rw (w.alloc (.cells (bools (List.replicate n false)).toArray 4)) B 4 (.slice (some ⟨w.heap.size, 0, none⟩) n n) (bools (List.replicate n false)) := by
  have := Rw.new w B 4 (bools (List.replicate n false)) hB (by rw [bools_len, List.length_replicate]; omega)
  rw [bools_len, List.length_replicate] at this
  exact this
theorem z154 (w : World) : (zeroValue 154).run Try.prog w = .ok (.agg #[.slice none 0 0, .slice none 0 0]) w := by kernel_rfl
theorem bld154 (a b : Option Addr) (n m c d : Nat) (w : World) : (Instr.build 154 #[(0, .slice a n c), (1, .slice b m d)]).run Try.prog w = .ok (.agg #[.slice a n c, .slice b m d]) w := by kernel_rfl
theorem size154 : (Try.prog.info? 154).map (·.size) = some 2 := by kernel_rfl
theorem under154 : ∃ d, Try.prog.underlying 154 = some d ∧ (match d with | .struct _ | .array _ _ => true | _ => false) = true := ⟨_, Try.underlying154, rfl⟩
theorem Rw.lenS {w : World} {B e n c : Nat} {a : Option Addr} {xs : List Value} (h : Rw w B e (.slice a n c) xs) : n = xs.length := by
  obtain ⟨a', c', h1, _⟩ := h.shape
  simp only [Value.slice.injEq] at h1
  exact h1.2.1
theorem take8 (f : Nat → Bool) (i : Nat) : (unm f (i + 1)).take 8 = if f i = false ∧ ((unm f i).take 8).length < 8 then (unm f i).take 8 ++ [i] else (unm f i).take 8 := by
  rw [unm_succ]
  cases hf : f i with
  | true => simp
  | false =>
    simp only [Bool.false_eq_true, if_false, true_and]
    rw [List.length_take]
    by_cases h : (unm f i).length < 8
    · rw [if_pos (by omega), List.take_of_length_le (by simp; omega), List.take_of_length_le (by omega)]
    · rw [if_neg (by omega), List.take_append_of_le_length (by omega)]
theorem and1_nat (y : Nat) (h : y < 4294967296) : bits .and .u32 (y : Int) 1 = ((y % 2 : Nat) : Int) := by
  have h1 := and1_u32 (BitVec.ofNat 32 y)
  rw [show ((BitVec.ofNat 32 y).toNat) = y by rw [BitVec.toNat_ofNat]; omega] at h1
  rw [h1]
  have : (BitVec.ofNat 32 y).getLsbD 0 = decide (y % 2 = 1) := by
    simp [BitVec.getLsbD, Nat.testBit_zero]
  rw [this]
  by_cases h2 : y % 2 = 1
  · simp [h2]
  · have : y % 2 = 0 := by omega
    simp [this]
theorem bits_xor_u8 (x y : Nat) (hx : x < 256) (hy : y < 256) : bits .xor .u8 (x : Int) (y : Int) = ((x ^^^ y : Nat) : Int) := by
  have hz : x ^^^ y < 2 ^ 8 := Nat.xor_lt_two_pow (by omega) (by omega)
  show IntKind.u8.wrap ((BitVec.ofInt 8 (x : Int) ^^^ BitVec.ofInt 8 (y : Int)).toNat : Int) = _
  have e : (BitVec.ofInt 8 (x : Int) ^^^ BitVec.ofInt 8 (y : Int)).toNat = x ^^^ y := by
    rw [BitVec.toNat_xor, BitVec.toNat_ofInt, BitVec.toNat_ofInt]
    congr 1 <;> omega
  rw [e, IntKind.wrap_u8]
  omega
theorem xor_pow (l : List UInt8) (q r : Nat) : bits .xor .u8 (nb l q) ((2 : Int) ^ r % 256) = (((l[q]?.getD 0) ^^^ UInt8.ofNat (2 ^ r)).toNat : Int) := by
  have e : (2 : Int) ^ r % 256 = ((2 ^ r % 256 : Nat) : Int) := by simp
  rw [e, nb_nn, bits_xor_u8 _ _ (nn_lt l q) (by omega), UInt8.toNat_xor, UInt8.toNat_ofNat']
  rfl
/-- a file: its beginning, again and again, up to 2000 bytes -/
def repB (p : List UInt8) : Nat → List UInt8
  | 0 => []
  | i + 1 => if 2000 < (repB p i).length + p.length then repB p i else repB p i ++ p
theorem repB_len (p : List UInt8) : ∀ i, (repB p i).length ≤ 2000
  | 0 => by simp [repB]
  | i + 1 => by
    have := repB_len p i
    unfold repB
    split
    · exact this
    · rw [List.length_append]; omega
theorem repB_stop (p : List UInt8) (i : Nat) (h : 2000 < (repB p i).length + p.length) : ∀ k, repB p (i + k) = repB p i
  | 0 => rfl
  | k + 1 => by
    show (if 2000 < (repB p (i + k)).length + p.length then repB p (i + k) else repB p (i + k) ++ p) = _
    rw [repB_stop p i h k, if_pos h]
def fileB (p : List UInt8) (t : Nat) : List UInt8 := repB p (1 + t % 40)
theorem fileB_len (p : List UInt8) (t : Nat) : (fileB p t).length ≤ 2000 := repB_len p _
theorem newLink_any (n : Nat) (w0 : World) (hn : n ≤ 65535) : Calls Try.prog 128 #[.int .i64 (n : Int)] w0 fun e w' =>
    ∃ g1 g2, e = .returned (.agg #[.slice (some ⟨g1, 0, none⟩) (chunksT n) (chunksT n), .slice (some ⟨g2, 0, none⟩) (chunksT n) (chunksT n)]) ∧ Rw w' w0.heap.size 4 (.slice (some ⟨g1, 0, none⟩) (chunksT n) (chunksT n)) (bools (List.replicate (chunksT n) false)) ∧ Rw w' w0.heap.size 4 (.slice (some ⟨g2, 0, none⟩) (chunksT n) (chunksT n)) (bools (List.replicate (chunksT n) false)) ∧ g1 ≠ g2 ∧ Ext w0 w' := by
  refine calls_has (args := [.int .i64 (n : Int)]) Try.func128 rfl Try.ntmps128 (Nat.le_of_ble_eq_true rfl) (fun a H => ?_)
  simp only [argl, Nat.reduceAdd] at H
  refine wp_seq_k (fun K1 hK1 => ?_)
  refine e_region (fun R hR => ?_)
  refine e_op H rfl rfl (by decide) (x_alloc H rfl (al_new (z154 _))) ?_
  clear H a; intro a H
  refine e_nil (hR.out _ _ ?_)
  clear hR R
  have T2 := Blk.new w0 154 [.slice none 0 0, .slice none 0 0]
  have E1 := (Ext.refl w0).al (.cells #[.slice none 0 0, .slice none 0 0] 154)
  obtain ⟨g0, hg0e⟩ : ∃ g, g = w0.heap.size := ⟨_, rfl⟩
  rw [← hg0e] at H T2
  have hg0 : w0.heap.size ≤ g0 := by omega
  generalize w0.alloc (.cells #[.slice none 0 0, .slice none 0 0] 154) = w1 at *
  refine hK1 _ _ ?_
  clear hK1 K1
  refine wp_seq_k (fun K2 hK2 => ?_)
  refine e_region (fun R hR => ?_)
  refine e_op H rfl rfl (by decide) (x_move H rfl rfl) ?_
  clear H a; intro a H
  refine e_op H rfl rfl (by decide) (x_binI H rfl rfl rfl (b_add (z := ((n + 63 : Nat) : Int)) (by rw [IntKind.wrap_i64]; omega))) ?_
  clear H a; intro a H
  refine e_op H rfl rfl (by decide) (x_binI H rfl rfl rfl (b_quo (z := (((n + 63) / 64 : Nat) : Int)) (by decide) (by rw [Int.tdiv_eq_ediv_of_nonneg (by omega), IntKind.wrap_i64]; omega))) ?_
  clear H a; intro a H
  refine e_op H rfl rfl (by decide) (x_assign H rfl rfl) ?_
  clear H a; intro a H
  refine e_nil (hR.out _ _ ?_)
  clear hR R
  refine hK2 _ _ ?_
  clear hK2 K2
  refine wp_seq_k (fun K3 hK3 => ?_)
  refine wp_seq_k (fun K4 hK4 => ?_)
  refine e_region (fun R hR => ?_)
  refine e_op H rfl rfl (by decide) (x_move H rfl rfl) ?_
  clear H a; intro a H
  refine e_op H rfl rfl (by decide) (x_binI H rfl rfl rfl (b_eql (b := decide ((n + 63) / 64 = 0)) (by rw [Bool.eq_iff_iff, beq_iff_eq, decide_eq_true_eq]; omega))) ?_
  clear H a; intro a H
  refine e_nil (hR.out _ _ ?_)
  clear hR R
  refine hK4 _ _ ?_
  clear hK4 K4
  refine Code.wp_mono (Q := fun e a w => e = Exit.normal ∧ Has a 14 [(2, .pointer (some ⟨g0, 0, none⟩)), (3, .int .i64 (((chunksT n) : Nat) : Int))] ∧ w = w1) (fun e a w hM => ?_) ?_
  · skip
    clear H
    obtain ⟨rfl, H, hww⟩ := hM
    rw [hww]
    clear hww w
    refine hK3 _ _ ?_
    clear hK3 K3
    refine wp_seq_k (fun K5 hK5 => ?_)
    have hc1 : (chunksT n) ≤ 1000000 := by unfold chunksT; omega
    obtain ⟨wd, hwd⟩ : ∃ wx, wx = w1.drew := ⟨_, rfl⟩
    have Ewd : Ext w1 wd := by rw [hwd]; exact (Ext.refl _).dr
    replace T2 := T2.ext Ewd
    have E := E1.tr Ewd
    refine g_start (fun w' => True) (by kernel_rfl) (fun R hR => ?_)
    rw [← hwd]
    refine g_take 0 H rfl (wanted_none rfl) rfl (by decide) (by kernel_rfl) (by kernel_rfl) (by kernel_rfl) trivial (fun w' hSw => (x_move H rfl rfl)) ?_
    clear H a; intro a H
    refine g_take 2 H rfl (wanted_none rfl) rfl (by decide) (by kernel_rfl) (by kernel_rfl) (by kernel_rfl) trivial (fun w' hSw => (x_move H rfl rfl)) ?_
    clear H a; intro a H
    refine g_two 1 3 H (by kernel_rfl) rfl (wanted_none rfl) rfl (by decide) (x_makeSlice H rfl rfl rfl (mk_b (n := (chunksT n)) rfl rfl (by omega))) (trivial) rfl (wanted_none rfl) rfl (by decide) (x_makeSlice H rfl rfl rfl (mk_b (n := (chunksT n)) rfl rfl (by omega))) (trivial) ?_ ?_
    · skip
      clear H a; intro a H
      have RW1 := Rw.fresh wd w0.heap.size (chunksT n) E.sz (by omega)
      replace E := E.al (.cells (bools (List.replicate (chunksT n) false)).toArray 4)
      replace T2 := T2.alloc (.cells (bools (List.replicate (chunksT n) false)).toArray 4)
      obtain ⟨g1, hg1⟩ : ∃ g, g = wd.heap.size := ⟨_, rfl⟩
      try (have hne : g1 ≠ g2 := by have := (RW2.blk g2 rfl).2.1; omega)
      try (replace RW2 := RW2.ext ((Ext.refl wd).al (.cells (bools (List.replicate (chunksT n) false)).toArray 4)))
      rw [← hg1] at H RW1
      clear hg1
      generalize wd.alloc (.cells (bools (List.replicate (chunksT n) false)).toArray 4) = wd at *
      refine g_op 3 H rfl (by kernel_rfl) (wanted_none rfl) rfl (by decide) (x_makeSlice H rfl rfl rfl (mk_b (n := (chunksT n)) rfl rfl (by omega))) (trivial) ?_
      clear H a; intro a H
      have RW2 := Rw.fresh wd w0.heap.size (chunksT n) E.sz (by omega)
      replace E := E.al (.cells (bools (List.replicate (chunksT n) false)).toArray 4)
      replace T2 := T2.alloc (.cells (bools (List.replicate (chunksT n) false)).toArray 4)
      obtain ⟨g2, hg2⟩ : ∃ g, g = wd.heap.size := ⟨_, rfl⟩
      try (have hne : g1 ≠ g2 := by have := (RW1.blk g1 rfl).2.1; omega)
      try (replace RW1 := RW1.ext ((Ext.refl wd).al (.cells (bools (List.replicate (chunksT n) false)).toArray 4)))
      rw [← hg2] at H RW2
      clear hg2
      generalize wd.alloc (.cells (bools (List.replicate (chunksT n) false)).toArray 4) = wd at *
      refine g_take 4 H rfl (wanted_none rfl) rfl (by decide) (by kernel_rfl) (by kernel_rfl) (by kernel_rfl) trivial (fun w' hSw => (x_build H rfl rfl (bld154 _ _ _ _ _ _ _))) ?_
      clear H a; intro a H
      refine g_st 5 H rfl (by kernel_rfl) (wanted_none rfl) rfl (x_store H rfl rfl rfl (st_row T2 (by kernel_rfl) (by rfl) (by rw [Array.all_eq_true']; intro z hz; simp at hz; rcases hz with rfl | rfl <;> rfl))) (trivial) ?_
      refine g_done (by kernel_rfl) (hR.out _ _ ?_)
      clear hR R
      have hgl2 := T2.lt
      have F5 : Frm [g0] wd (wd.setRow g0 #[.slice (some ⟨g1, 0, none⟩) (chunksT n) (chunksT n), .slice (some ⟨g2, 0, none⟩) (chunksT n) (chunksT n)]) := (Frm.refl [g0] wd).grown (grown_setRow wd g0 _) (fun k e => by cases e; exact .inl (by simp))
      replace RW1 := RW1.frm F5 (fun k hk => by cases hk; have := (RW1.nt T2 (by decide)); simp; intro e; exact this (by rw [e]; rfl))
      replace RW2 := RW2.frm F5 (fun k hk => by cases hk; have := (RW2.nt T2 (by decide)); simp; intro e; exact this (by rw [e]; rfl))
      replace E := E.row_ hg0 #[.slice (some ⟨g1, 0, none⟩) (chunksT n) (chunksT n), .slice (some ⟨g2, 0, none⟩) (chunksT n) (chunksT n)]
      replace T2 := T2.row [.slice (some ⟨g1, 0, none⟩) (chunksT n) (chunksT n), .slice (some ⟨g2, 0, none⟩) (chunksT n) (chunksT n)]
      refine hK5 _ _ ?_
      clear hK5 K5
      refine wp_ret ?_
      exact retc H rfl rfl T2 Try.underlying154 rfl (by kernel_rfl) ⟨g1, g2, rfl, RW1, RW2, hne, E⟩
    · skip
      clear H a; intro a H
      have RW2 := Rw.fresh wd w0.heap.size (chunksT n) E.sz (by omega)
      replace E := E.al (.cells (bools (List.replicate (chunksT n) false)).toArray 4)
      replace T2 := T2.alloc (.cells (bools (List.replicate (chunksT n) false)).toArray 4)
      obtain ⟨g2, hg2⟩ : ∃ g, g = wd.heap.size := ⟨_, rfl⟩
      try (have hne : g1 ≠ g2 := by have := (RW1.blk g1 rfl).2.1; omega)
      try (replace RW1 := RW1.ext ((Ext.refl wd).al (.cells (bools (List.replicate (chunksT n) false)).toArray 4)))
      rw [← hg2] at H RW2
      clear hg2
      generalize wd.alloc (.cells (bools (List.replicate (chunksT n) false)).toArray 4) = wd at *
      refine g_op 1 H rfl (by kernel_rfl) (wanted_none rfl) rfl (by decide) (x_makeSlice H rfl rfl rfl (mk_b (n := (chunksT n)) rfl rfl (by omega))) (trivial) ?_
      clear H a; intro a H
      have RW1 := Rw.fresh wd w0.heap.size (chunksT n) E.sz (by omega)
      replace E := E.al (.cells (bools (List.replicate (chunksT n) false)).toArray 4)
      replace T2 := T2.alloc (.cells (bools (List.replicate (chunksT n) false)).toArray 4)
      obtain ⟨g1, hg1⟩ : ∃ g, g = wd.heap.size := ⟨_, rfl⟩
      try (have hne : g1 ≠ g2 := by have := (RW2.blk g2 rfl).2.1; omega)
      try (replace RW2 := RW2.ext ((Ext.refl wd).al (.cells (bools (List.replicate (chunksT n) false)).toArray 4)))
      rw [← hg1] at H RW1
      clear hg1
      generalize wd.alloc (.cells (bools (List.replicate (chunksT n) false)).toArray 4) = wd at *
      refine g_take 4 H rfl (wanted_none rfl) rfl (by decide) (by kernel_rfl) (by kernel_rfl) (by kernel_rfl) trivial (fun w' hSw => (x_build H rfl rfl (bld154 _ _ _ _ _ _ _))) ?_
      clear H a; intro a H
      refine g_st 5 H rfl (by kernel_rfl) (wanted_none rfl) rfl (x_store H rfl rfl rfl (st_row T2 (by kernel_rfl) (by rfl) (by rw [Array.all_eq_true']; intro z hz; simp at hz; rcases hz with rfl | rfl <;> rfl))) (trivial) ?_
      refine g_done (by kernel_rfl) (hR.out _ _ ?_)
      clear hR R
      have hgl2 := T2.lt
      have F5 : Frm [g0] wd (wd.setRow g0 #[.slice (some ⟨g1, 0, none⟩) (chunksT n) (chunksT n), .slice (some ⟨g2, 0, none⟩) (chunksT n) (chunksT n)]) := (Frm.refl [g0] wd).grown (grown_setRow wd g0 _) (fun k e => by cases e; exact .inl (by simp))
      replace RW1 := RW1.frm F5 (fun k hk => by cases hk; have := (RW1.nt T2 (by decide)); simp; intro e; exact this (by rw [e]; rfl))
      replace RW2 := RW2.frm F5 (fun k hk => by cases hk; have := (RW2.nt T2 (by decide)); simp; intro e; exact this (by rw [e]; rfl))
      replace E := E.row_ hg0 #[.slice (some ⟨g1, 0, none⟩) (chunksT n) (chunksT n), .slice (some ⟨g2, 0, none⟩) (chunksT n) (chunksT n)]
      replace T2 := T2.row [.slice (some ⟨g1, 0, none⟩) (chunksT n) (chunksT n), .slice (some ⟨g2, 0, none⟩) (chunksT n) (chunksT n)]
      refine hK5 _ _ ?_
      clear hK5 K5
      refine wp_ret ?_
      exact retc H rfl rfl T2 Try.underlying154 rfl (by kernel_rfl) ⟨g1, g2, rfl, RW1, RW2, hne, E⟩
  · skip
    by_cases hz : (n + 63) / 64 = 0
    · skip
      rw [decide_eq_true hz] at H
      have hc : (chunksT n) = 1 := by unfold chunksT; omega
      rw [hc]
      refine c_true H rfl ?_
      refine e_region (fun R hR => ?_)
      refine e_op H rfl rfl (by decide) (x_assign H rfl rfl) ?_
      clear H a; intro a H
      refine e_nil (hR.out _ _ ?_)
      clear hR R
      exact ⟨rfl, H.sub ⟨rfl, rfl, trivial⟩, rfl⟩
    · skip
      rw [decide_eq_false hz] at H
      have hc : (chunksT n) = (n + 63) / 64 := by unfold chunksT; omega
      rw [hc]
      refine c_false H rfl ?_
      refine wp_skip ?_
      exact ⟨rfl, H.sub ⟨rfl, rfl, trivial⟩, rfl⟩
theorem leftL_any (B : Nat) (has acked : List Bool) (vh va : Value) (w0 : World) (hh : Rw w0 B 4 vh (bools has)) (ha : Rw w0 B 4 va (bools acked)) (hn : acked.length ≤ 1000000) :
    Calls Try.prog 131 #[.agg #[vh, va]] w0 fun e w' => e = .returned (.int .i64 (((unm (gb acked) acked.length).length : Nat) : Int)) ∧ Ext w0 w' := by
  obtain ⟨ar, ac, hv, hac, _⟩ := ha.shape
  rw [bools_len] at hv hac
  subst hv
  refine calls_has (args := [.agg #[vh, .slice ar acked.length ac]]) Try.func131 rfl Try.ntmps131 (Nat.le_of_ble_eq_true rfl) (fun a H => ?_)
  simp only [argl, Nat.reduceAdd] at H
  refine wp_seq_k (fun K1 hK1 => ?_)
  refine e_region (fun R hR => ?_)
  refine e_op H rfl rfl (by decide) (x_box H rfl rfl bx_new) ?_
  clear H a; intro a H
  have T1 := Blk.new w0 154 [vh, (.slice ar acked.length ac)]
  have E1 := (Ext.refl w0).al (.cells #[vh, (.slice ar acked.length ac)] 154)
  obtain ⟨g1, hg1⟩ : ∃ g, g = w0.heap.size := ⟨_, rfl⟩
  rw [← hg1] at H T1
  generalize w0.alloc (.cells #[vh, (.slice ar acked.length ac)] 154) = w1 at *
  refine e_op H rfl rfl (by decide) (x_assign H rfl rfl) ?_
  clear H a; intro a H
  refine e_nil (hR.out _ _ ?_)
  clear hR R
  refine hK1 _ _ ?_
  clear hK1 K1
  refine wp_seq_k (fun K2 hK2 => ?_)
  refine e_region (fun R hR => ?_)
  refine e_op H rfl rfl (by decide) (x_assign H rfl rfl) ?_
  clear H a; intro a H
  refine e_nil (hR.out _ _ ?_)
  clear hR R
  refine hK2 _ _ ?_
  clear hK2 K2
  refine wp_seq_k (fun K3 hK3 => ?_)
  refine wp_seq_k (fun K4 hK4 => ?_)
  refine e_region (fun R hR => ?_)
  refine e_op H rfl rfl (by decide) (x_fieldAddr H rfl rfl (fa154_1 _ _ _)) ?_
  clear H a; intro a H
  refine e_op H rfl rfl (by decide) (x_load H rfl rfl (l_cell Try.isAgg152 (T1.at_ (i := 1) rfl))) ?_
  clear H a; intro a H
  refine e_op H rfl rfl (by decide) (x_builtin H rfl rfl (fun cs => len_sl Try.underlying152)) ?_
  clear H a; intro a H
  refine e_op H rfl rfl (by decide) (x_move H rfl rfl) ?_
  clear H a; intro a H
  refine e_nil (hR.out _ _ ?_)
  clear hR R
  refine hK4 _ _ ?_
  clear hK4 K4
  refine wp_block ?_
  refine wp_loop_ghost (fun n a w => ∃ i, i ≤ acked.length ∧ n = acked.length - i ∧ Has a 19 [(1, .pointer (some ⟨g1, 0, none⟩)), (3, .int .i64 (((unm (gb acked) i).length : Nat) : Int)), (7, .slice ar acked.length ac), (8, .int .i64 ((acked.length : Nat) : Int)), (9, .int .i64 (i : Int))] ∧ w1 = w) (acked.length) ?_ ?_
  · skip
    exact ⟨0, by omega, rfl, H.sub ⟨rfl, rfl, rfl, rfl, rfl, trivial⟩, rfl⟩
  · skip
    clear H
    intro n a w hI
    obtain ⟨i, hi, rfl, H, rfl⟩ := hI
    have hul := unm_len (gb acked) i
    rcases (show (i < acked.length ∧ gb acked i = true) ∨ (i < acked.length ∧ gb acked i = false) ∨ i = acked.length by cases gb acked i <;> simp <;> omega) with ⟨hlt, hgb⟩ | ⟨hlt, hgb⟩ | rfl
    · skip
      have RWx := ha.ext E1
      obtain ⟨gx, ox, cx, hvx⟩ := RWx.pos (by rw [bools_len]; omega)
      simp only [Value.slice.injEq] at hvx
      obtain ⟨hax, _, _⟩ := hvx
      rw [hax] at H RWx
      have hcell := RWx.cells i _ (bools_get _ _ (by omega))
      rw [hgb] at hcell
      refine wp_seq_k (fun K5 hK5 => ?_)
      refine e_region (fun R hR => ?_)
      refine e_op H rfl rfl (by decide) (x_binI H rfl rfl rfl (b_lss (b := true) (dec_t (by omega)))) ?_
      clear H a; intro a H
      refine e_nil (hR.out _ _ ?_)
      clear hR R
      refine hK5 _ _ ?_
      clear hK5 K5
      refine wp_seq_k (fun K6 hK6 => ?_)
      refine c_true H rfl ?_
      refine wp_skip ?_
      refine hK6 _ _ ?_
      clear hK6 K6
      refine wp_seq_k (fun K7 hK7 => ?_)
      refine wp_block ?_
      refine wp_seq_k (fun K8 hK8 => ?_)
      refine e_region (fun R hR => ?_)
      refine e_op H rfl rfl (by decide) (x_indexAddr H rfl rfl rfl (i_sl (m := i) Try.underlying152 Try.sizeOf4 rfl (by omega))) ?_
      clear H a; intro a H
      refine e_op H rfl rfl (by decide) (x_load H rfl rfl (l_cell Try.isAgg4 (hcell))) ?_
      clear H a; intro a H
      refine e_op H rfl rfl (by decide) (x_assign H rfl rfl) ?_
      clear H a; intro a H
      refine e_nil (hR.out _ _ ?_)
      clear hR R
      refine hK8 _ _ ?_
      clear hK8 K8
      refine wp_seq_k (fun K9 hK9 => ?_)
      refine e_region (fun R hR => ?_)
      refine e_op H rfl rfl (by decide) (x_move H rfl rfl) ?_
      clear H a; intro a H
      refine e_op H rfl rfl (by decide) (x_un H rfl rfl (u_not (c := false) (rfl))) ?_
      clear H a; intro a H
      refine e_nil (hR.out _ _ ?_)
      clear hR R
      refine hK9 _ _ ?_
      clear hK9 K9
      refine c_false H rfl ?_
      refine wp_skip ?_
      refine hK7 _ _ ?_
      clear hK7 K7
      refine e_region (fun R hR => ?_)
      refine e_op H rfl rfl (by decide) (x_binI H rfl rfl rfl (b_add (z := ((i + 1 : Nat) : Int)) (by rw [IntKind.wrap_i64]; omega))) ?_
      clear H a; intro a H
      refine e_op H rfl rfl (by decide) (x_move H rfl rfl) ?_
      clear H a; intro a H
      refine e_nil (hR.out _ _ ?_)
      clear hR R
      have hu := unm_succ (gb acked) i
      rw [hgb] at hu
      simp only [Bool.false_eq_true, if_true, if_false] at hu
      rw [← hax] at H
      exact ⟨acked.length - (i + 1), by omega, i + 1, by omega, rfl, by rw [hu]; exact H.sub ⟨rfl, rfl, rfl, rfl, rfl, trivial⟩, rfl⟩
    · skip
      have RWx := ha.ext E1
      obtain ⟨gx, ox, cx, hvx⟩ := RWx.pos (by rw [bools_len]; omega)
      simp only [Value.slice.injEq] at hvx
      obtain ⟨hax, _, _⟩ := hvx
      rw [hax] at H RWx
      have hcell := RWx.cells i _ (bools_get _ _ (by omega))
      rw [hgb] at hcell
      refine wp_seq_k (fun K10 hK10 => ?_)
      refine e_region (fun R hR => ?_)
      refine e_op H rfl rfl (by decide) (x_binI H rfl rfl rfl (b_lss (b := true) (dec_t (by omega)))) ?_
      clear H a; intro a H
      refine e_nil (hR.out _ _ ?_)
      clear hR R
      refine hK10 _ _ ?_
      clear hK10 K10
      refine wp_seq_k (fun K11 hK11 => ?_)
      refine c_true H rfl ?_
      refine wp_skip ?_
      refine hK11 _ _ ?_
      clear hK11 K11
      refine wp_seq_k (fun K12 hK12 => ?_)
      refine wp_block ?_
      refine wp_seq_k (fun K13 hK13 => ?_)
      refine e_region (fun R hR => ?_)
      refine e_op H rfl rfl (by decide) (x_indexAddr H rfl rfl rfl (i_sl (m := i) Try.underlying152 Try.sizeOf4 rfl (by omega))) ?_
      clear H a; intro a H
      refine e_op H rfl rfl (by decide) (x_load H rfl rfl (l_cell Try.isAgg4 (hcell))) ?_
      clear H a; intro a H
      refine e_op H rfl rfl (by decide) (x_assign H rfl rfl) ?_
      clear H a; intro a H
      refine e_nil (hR.out _ _ ?_)
      clear hR R
      refine hK13 _ _ ?_
      clear hK13 K13
      refine wp_seq_k (fun K14 hK14 => ?_)
      refine e_region (fun R hR => ?_)
      refine e_op H rfl rfl (by decide) (x_move H rfl rfl) ?_
      clear H a; intro a H
      refine e_op H rfl rfl (by decide) (x_un H rfl rfl (u_not (c := true) (rfl))) ?_
      clear H a; intro a H
      refine e_nil (hR.out _ _ ?_)
      clear hR R
      refine hK14 _ _ ?_
      clear hK14 K14
      refine c_true H rfl ?_
      refine e_region (fun R hR => ?_)
      refine e_op H rfl rfl (by decide) (x_move H rfl rfl) ?_
      clear H a; intro a H
      refine e_op H rfl rfl (by decide) (x_binI H rfl rfl rfl (b_add (z := (((unm (gb acked) i).length + 1 : Nat) : Int)) (by rw [IntKind.wrap_i64]; omega))) ?_
      clear H a; intro a H
      refine e_op H rfl rfl (by decide) (x_assign H rfl rfl) ?_
      clear H a; intro a H
      refine e_nil (hR.out _ _ ?_)
      clear hR R
      refine hK12 _ _ ?_
      clear hK12 K12
      refine e_region (fun R hR => ?_)
      refine e_op H rfl rfl (by decide) (x_binI H rfl rfl rfl (b_add (z := ((i + 1 : Nat) : Int)) (by rw [IntKind.wrap_i64]; omega))) ?_
      clear H a; intro a H
      refine e_op H rfl rfl (by decide) (x_move H rfl rfl) ?_
      clear H a; intro a H
      refine e_nil (hR.out _ _ ?_)
      clear hR R
      have hu := unm_succ (gb acked) i
      rw [hgb] at hu
      simp only [Bool.false_eq_true, if_true, if_false] at hu
      rw [← hax] at H
      exact ⟨acked.length - (i + 1), by omega, i + 1, by omega, rfl, by rw [hu, List.length_append]; exact H.sub ⟨rfl, rfl, rfl, rfl, rfl, trivial⟩, rfl⟩
    · skip
      skip
      refine wp_seq_k (fun K15 hK15 => ?_)
      refine e_region (fun R hR => ?_)
      refine e_op H rfl rfl (by decide) (x_binI H rfl rfl rfl (b_lss (b := false) (dec_f (by omega)))) ?_
      clear H a; intro a H
      refine e_nil (hR.out _ _ ?_)
      clear hR R
      refine hK15 _ _ ?_
      clear hK15 K15
      refine wp_seq_k (fun K16 hK16 => ?_)
      refine c_false H rfl ?_
      refine wp_exit ?_
      refine t_exit ?_
      refine t_exit ?_
      refine b_hit ?_
      clear hK16 K16
      refine hK3 _ _ ?_
      clear hK3 K3
      refine wp_seq_k (fun K17 hK17 => ?_)
      refine e_region (fun R hR => ?_)
      refine e_op H rfl rfl (by decide) (x_move H rfl rfl) ?_
      clear H a; intro a H
      refine e_op H rfl rfl (by decide) (x_assign H rfl rfl) ?_
      clear H a; intro a H
      refine e_nil (hR.out _ _ ?_)
      clear hR R
      refine hK17 _ _ ?_
      clear hK17 K17
      refine wp_ret ?_
      exact ret1 H rfl rfl ⟨rfl, E1⟩
theorem completeL_any (B : Nat) (has acked : List Bool) (vh va : Value) (w0 : World) (hh : Rw w0 B 4 vh (bools has)) (ha : Rw w0 B 4 va (bools acked)) (hn : has.length ≤ 1000000) :
    Calls Try.prog 130 #[.agg #[vh, va]] w0 fun e w' => e = .returned (.bool (decide (front (gb has) has.length = has.length))) ∧ Ext w0 w' := by
  obtain ⟨ar, ac, hv, hac, _⟩ := hh.shape
  rw [bools_len] at hv hac
  subst hv
  refine calls_has (args := [.agg #[.slice ar has.length ac, va]]) Try.func130 rfl Try.ntmps130 (Nat.le_of_ble_eq_true rfl) (fun a H => ?_)
  simp only [argl, Nat.reduceAdd] at H
  refine wp_seq_k (fun K1 hK1 => ?_)
  refine e_region (fun R hR => ?_)
  refine e_op H rfl rfl (by decide) (x_box H rfl rfl bx_new) ?_
  clear H a; intro a H
  have T1 := Blk.new w0 154 [(.slice ar has.length ac), va]
  have E1 := (Ext.refl w0).al (.cells #[(.slice ar has.length ac), va] 154)
  obtain ⟨g1, hg1⟩ : ∃ g, g = w0.heap.size := ⟨_, rfl⟩
  rw [← hg1] at H T1
  generalize w0.alloc (.cells #[(.slice ar has.length ac), va] 154) = w1 at *
  refine e_op H rfl rfl (by decide) (x_assign H rfl rfl) ?_
  clear H a; intro a H
  refine e_nil (hR.out _ _ ?_)
  clear hR R
  refine hK1 _ _ ?_
  clear hK1 K1
  refine wp_seq_k (fun K2 hK2 => ?_)
  refine wp_seq_k (fun K3 hK3 => ?_)
  refine e_region (fun R hR => ?_)
  refine e_op H rfl rfl (by decide) (x_fieldAddr H rfl rfl (fa154_0 _ _ _)) ?_
  clear H a; intro a H
  refine e_op H rfl rfl (by decide) (x_load H rfl rfl (l_cell Try.isAgg152 (T1.at_ (i := 0) rfl))) ?_
  clear H a; intro a H
  refine e_op H rfl rfl (by decide) (x_builtin H rfl rfl (fun cs => len_sl Try.underlying152)) ?_
  clear H a; intro a H
  refine e_op H rfl rfl (by decide) (x_move H rfl rfl) ?_
  clear H a; intro a H
  refine e_nil (hR.out _ _ ?_)
  clear hR R
  refine hK3 _ _ ?_
  clear hK3 K3
  refine wp_block ?_
  refine wp_loop_ghost (fun n a w => ∃ i, i ≤ has.length ∧ n = has.length - i ∧ (∀ k, k < i → gb has k = true) ∧ Has a 15 [(1, .pointer (some ⟨g1, 0, none⟩)), (6, .slice ar has.length ac), (7, .int .i64 ((has.length : Nat) : Int)), (8, .int .i64 (i : Int))] ∧ w1 = w) (has.length) ?_ ?_
  · skip
    exact ⟨0, by omega, rfl, fun k h => by omega, H.sub ⟨rfl, rfl, rfl, rfl, trivial⟩, rfl⟩
  · skip
    clear H
    intro n a w hI
    obtain ⟨i, hi, rfl, hall, H, rfl⟩ := hI
    rcases (show (i < has.length ∧ gb has i = true) ∨ (i < has.length ∧ gb has i = false) ∨ i = has.length by cases gb has i <;> simp <;> omega) with ⟨hlt, hgb⟩ | ⟨hlt, hgb⟩ | hie
    · skip
      have RWx := hh.ext E1
      obtain ⟨gx, ox, cx, hvx⟩ := RWx.pos (by rw [bools_len]; omega)
      simp only [Value.slice.injEq] at hvx
      obtain ⟨hax, _, _⟩ := hvx
      rw [hax] at H RWx
      have hcell := RWx.cells i _ (bools_get _ _ (by omega))
      rw [hgb] at hcell
      refine wp_seq_k (fun K4 hK4 => ?_)
      refine e_region (fun R hR => ?_)
      refine e_op H rfl rfl (by decide) (x_binI H rfl rfl rfl (b_lss (b := true) (dec_t (by omega)))) ?_
      clear H a; intro a H
      refine e_nil (hR.out _ _ ?_)
      clear hR R
      refine hK4 _ _ ?_
      clear hK4 K4
      refine wp_seq_k (fun K5 hK5 => ?_)
      refine c_true H rfl ?_
      refine wp_skip ?_
      refine hK5 _ _ ?_
      clear hK5 K5
      refine wp_seq_k (fun K6 hK6 => ?_)
      refine wp_block ?_
      refine wp_seq_k (fun K7 hK7 => ?_)
      refine e_region (fun R hR => ?_)
      refine e_op H rfl rfl (by decide) (x_indexAddr H rfl rfl rfl (i_sl (m := i) Try.underlying152 Try.sizeOf4 rfl (by omega))) ?_
      clear H a; intro a H
      refine e_op H rfl rfl (by decide) (x_load H rfl rfl (l_cell Try.isAgg4 (hcell))) ?_
      clear H a; intro a H
      refine e_op H rfl rfl (by decide) (x_assign H rfl rfl) ?_
      clear H a; intro a H
      refine e_nil (hR.out _ _ ?_)
      clear hR R
      refine hK7 _ _ ?_
      clear hK7 K7
      refine wp_seq_k (fun K8 hK8 => ?_)
      refine e_region (fun R hR => ?_)
      refine e_op H rfl rfl (by decide) (x_move H rfl rfl) ?_
      clear H a; intro a H
      refine e_op H rfl rfl (by decide) (x_un H rfl rfl (u_not (c := false) (rfl))) ?_
      clear H a; intro a H
      refine e_nil (hR.out _ _ ?_)
      clear hR R
      refine hK8 _ _ ?_
      clear hK8 K8
      refine c_false H rfl ?_
      refine wp_skip ?_
      refine hK6 _ _ ?_
      clear hK6 K6
      refine e_region (fun R hR => ?_)
      refine e_op H rfl rfl (by decide) (x_binI H rfl rfl rfl (b_add (z := ((i + 1 : Nat) : Int)) (by rw [IntKind.wrap_i64]; omega))) ?_
      clear H a; intro a H
      refine e_op H rfl rfl (by decide) (x_move H rfl rfl) ?_
      clear H a; intro a H
      refine e_nil (hR.out _ _ ?_)
      clear hR R
      have hall2 : ∀ k, k < i + 1 → gb has k = true := by
        intro k h
        by_cases hkj : k = i
        · rw [hkj]; exact hgb
        · exact hall k (by omega)
      rw [← hax] at H
      exact ⟨has.length - (i + 1), by omega, i + 1, by omega, rfl, hall2, H.sub ⟨rfl, rfl, rfl, rfl, trivial⟩, rfl⟩
    · skip
      have RWx := hh.ext E1
      obtain ⟨gx, ox, cx, hvx⟩ := RWx.pos (by rw [bools_len]; omega)
      simp only [Value.slice.injEq] at hvx
      obtain ⟨hax, _, _⟩ := hvx
      rw [hax] at H RWx
      have hcell := RWx.cells i _ (bools_get _ _ (by omega))
      rw [hgb] at hcell
      refine wp_seq_k (fun K9 hK9 => ?_)
      refine e_region (fun R hR => ?_)
      refine e_op H rfl rfl (by decide) (x_binI H rfl rfl rfl (b_lss (b := true) (dec_t (by omega)))) ?_
      clear H a; intro a H
      refine e_nil (hR.out _ _ ?_)
      clear hR R
      refine hK9 _ _ ?_
      clear hK9 K9
      refine wp_seq_k (fun K10 hK10 => ?_)
      refine c_true H rfl ?_
      refine wp_skip ?_
      refine hK10 _ _ ?_
      clear hK10 K10
      refine wp_seq_k (fun K11 hK11 => ?_)
      refine wp_block ?_
      refine wp_seq_k (fun K12 hK12 => ?_)
      refine e_region (fun R hR => ?_)
      refine e_op H rfl rfl (by decide) (x_indexAddr H rfl rfl rfl (i_sl (m := i) Try.underlying152 Try.sizeOf4 rfl (by omega))) ?_
      clear H a; intro a H
      refine e_op H rfl rfl (by decide) (x_load H rfl rfl (l_cell Try.isAgg4 (hcell))) ?_
      clear H a; intro a H
      refine e_op H rfl rfl (by decide) (x_assign H rfl rfl) ?_
      clear H a; intro a H
      refine e_nil (hR.out _ _ ?_)
      clear hR R
      refine hK12 _ _ ?_
      clear hK12 K12
      refine wp_seq_k (fun K13 hK13 => ?_)
      refine e_region (fun R hR => ?_)
      refine e_op H rfl rfl (by decide) (x_move H rfl rfl) ?_
      clear H a; intro a H
      refine e_op H rfl rfl (by decide) (x_un H rfl rfl (u_not (c := true) (rfl))) ?_
      clear H a; intro a H
      refine e_nil (hR.out _ _ ?_)
      clear hR R
      refine hK13 _ _ ?_
      clear hK13 K13
      refine c_true H rfl ?_
      refine wp_seq_k (fun K14 hK14 => ?_)
      refine e_region (fun R hR => ?_)
      refine e_op H rfl rfl (by decide) (x_assign H rfl rfl) ?_
      clear H a; intro a H
      refine e_nil (hR.out _ _ ?_)
      clear hR R
      refine hK14 _ _ ?_
      clear hK14 K14
      refine wp_ret ?_
      refine b_ret ?_
      refine t_ret ?_
      refine t_ret ?_
      refine b_ret ?_
      refine t_ret ?_
      have hf : front (gb has) has.length = i := front_eq hi hall (.inr hgb)
      have hd : decide (front (gb has) has.length = has.length) = false := decide_eq_false (by omega)
      rw [hd]
      exact ret1 H rfl rfl ⟨rfl, E1⟩
    · skip
      skip
      refine wp_seq_k (fun K15 hK15 => ?_)
      refine e_region (fun R hR => ?_)
      refine e_op H rfl rfl (by decide) (x_binI H rfl rfl rfl (b_lss (b := false) (dec_f (by omega)))) ?_
      clear H a; intro a H
      refine e_nil (hR.out _ _ ?_)
      clear hR R
      refine hK15 _ _ ?_
      clear hK15 K15
      refine wp_seq_k (fun K16 hK16 => ?_)
      refine c_false H rfl ?_
      refine wp_exit ?_
      refine t_exit ?_
      refine t_exit ?_
      refine b_hit ?_
      clear hK16 K16
      refine hK2 _ _ ?_
      clear hK2 K2
      refine wp_seq_k (fun K17 hK17 => ?_)
      refine e_region (fun R hR => ?_)
      refine e_op H rfl rfl (by decide) (x_assign H rfl rfl) ?_
      clear H a; intro a H
      refine e_nil (hR.out _ _ ?_)
      clear hR R
      refine hK17 _ _ ?_
      clear hK17 K17
      refine wp_ret ?_
      have hf : front (gb has) has.length = i := front_eq hi hall (.inl hie)
      have hd : decide (front (gb has) has.length = has.length) = true := decide_eq_true (by omega)
      rw [hd]
      exact ret1 H rfl rfl ⟨rfl, E1⟩
theorem prefixL_any (B : Nat) (has acked : List Bool) (vh va : Value) (m : Nat) (w0 : World) (hh : Rw w0 B 4 vh (bools has)) (ha : Rw w0 B 4 va (bools acked)) (hn : has.length ≤ 1000000) :
    Calls Try.prog 129 #[.agg #[vh, va], .int .i64 (m : Int)] w0 fun e w' => e = .returned (.int .i64 ((min ((front (gb has) has.length) * 64) m : Nat) : Int)) ∧ Ext w0 w' := by
  obtain ⟨ar, ac, hv, hac, _⟩ := hh.shape
  rw [bools_len] at hv hac
  subst hv
  refine calls_has (args := [.agg #[.slice ar has.length ac, va], .int .i64 (m : Int)]) Try.func129 rfl Try.ntmps129 (Nat.le_of_ble_eq_true rfl) (fun a H => ?_)
  simp only [argl, Nat.reduceAdd] at H
  refine wp_seq_k (fun K1 hK1 => ?_)
  refine e_region (fun R hR => ?_)
  refine e_op H rfl rfl (by decide) (x_box H rfl rfl bx_new) ?_
  clear H a; intro a H
  have T1 := Blk.new w0 154 [(.slice ar has.length ac), va]
  have E1 := (Ext.refl w0).al (.cells #[(.slice ar has.length ac), va] 154)
  obtain ⟨g1, hg1⟩ : ∃ g, g = w0.heap.size := ⟨_, rfl⟩
  rw [← hg1] at H T1
  generalize w0.alloc (.cells #[(.slice ar has.length ac), va] 154) = w1 at *
  refine e_op H rfl rfl (by decide) (x_assign H rfl rfl) ?_
  clear H a; intro a H
  refine e_nil (hR.out _ _ ?_)
  clear hR R
  refine hK1 _ _ ?_
  clear hK1 K1
  refine wp_seq_k (fun K2 hK2 => ?_)
  refine e_region (fun R hR => ?_)
  refine e_op H rfl rfl (by decide) (x_assign H rfl rfl) ?_
  clear H a; intro a H
  refine e_nil (hR.out _ _ ?_)
  clear hR R
  refine hK2 _ _ ?_
  clear hK2 K2
  refine wp_seq_k (fun K3 hK3 => ?_)
  refine wp_seq_k (fun K4 hK4 => ?_)
  refine e_region (fun R hR => ?_)
  refine e_op H rfl rfl (by decide) (x_assign H rfl rfl) ?_
  clear H a; intro a H
  refine e_nil (hR.out _ _ ?_)
  clear hR R
  refine hK4 _ _ ?_
  clear hK4 K4
  refine wp_block ?_
  refine wp_loop_ghost (fun n a w => ∃ j, j ≤ has.length ∧ n = has.length - j ∧ (∀ k, k < j → gb has k = true) ∧ Has a 28 [(1, .int .i64 (m : Int)), (2, .pointer (some ⟨g1, 0, none⟩)), (5, .int .i64 ((64 * j : Nat) : Int)), (6, .int .i64 (j : Int))] ∧ w1 = w) (has.length) ?_ ?_
  · skip
    exact ⟨0, by omega, rfl, fun k h => by omega, H.sub ⟨rfl, rfl, rfl, rfl, trivial⟩, rfl⟩
  · skip
    clear H
    intro n a w hI
    obtain ⟨j, hj, rfl, hall, H, rfl⟩ := hI
    rcases (show (j < has.length ∧ gb has j = true) ∨ (j < has.length ∧ gb has j = false) ∨ j = has.length by cases gb has j <;> simp <;> omega) with ⟨hlt, hgb⟩ | ⟨hlt, hgb⟩ | hie
    · skip
      have RWx := hh.ext E1
      obtain ⟨gx, ox, cx, hvx⟩ := RWx.pos (by rw [bools_len]; omega)
      simp only [Value.slice.injEq] at hvx
      obtain ⟨hax, _, _⟩ := hvx
      rw [hax] at RWx
      have hcell := RWx.cells j _ (bools_get _ _ (by omega))
      rw [hgb] at hcell
      refine wp_seq_k (fun K5 hK5 => ?_)
      refine wp_seq_k (fun K6 hK6 => ?_)
      refine e_region (fun R hR => ?_)
      refine e_op H rfl rfl (by decide) (x_move H rfl rfl) ?_
      clear H a; intro a H
      refine e_op H rfl rfl (by decide) (x_fieldAddr H rfl rfl (fa154_0 _ _ _)) ?_
      clear H a; intro a H
      refine e_op H rfl rfl (by decide) (x_load H rfl rfl (l_cell Try.isAgg152 (T1.at_ (i := 0) rfl))) ?_
      clear H a; intro a H
      refine e_op H rfl rfl (by decide) (x_builtin H rfl rfl (fun cs => len_sl Try.underlying152)) ?_
      clear H a; intro a H
      refine e_op H rfl rfl (by decide) (x_binI H rfl rfl rfl (b_lss (b := true) (dec_t (by omega)))) ?_
      clear H a; intro a H
      refine e_op H rfl rfl (by decide) (x_move H rfl rfl) ?_
      clear H a; intro a H
      refine e_opg H (wanted_true H rfl rfl rfl rfl) rfl (by decide) (x_fieldAddr H rfl rfl (fa154_0 _ _ _)) ?_
      clear H a; intro a H
      refine e_opg H (wanted_true H rfl rfl rfl rfl) rfl (by decide) (x_load H rfl rfl (l_cell Try.isAgg152 (T1.at_ (i := 0) rfl))) ?_
      clear H a; intro a H
      refine e_opg H (wanted_true H rfl rfl rfl rfl) rfl (by decide) (x_move H rfl rfl) ?_
      clear H a; intro a H
      rw [hax] at H
      refine e_opg H (wanted_true H rfl rfl rfl rfl) rfl (by decide) (x_indexAddr H rfl rfl rfl (i_sl (m := j) Try.underlying152 Try.sizeOf4 rfl (by omega))) ?_
      clear H a; intro a H
      refine e_opg H (wanted_true H rfl rfl rfl rfl) rfl (by decide) (x_load H rfl rfl (l_cell Try.isAgg4 (hcell))) ?_
      clear H a; intro a H
      refine e_op H rfl rfl (by decide) (x_pickT H rfl rfl rfl) ?_
      clear H a; intro a H
      refine e_nil (hR.out _ _ ?_)
      clear hR R
      refine hK6 _ _ ?_
      clear hK6 K6
      refine c_true H rfl ?_
      refine wp_skip ?_
      refine hK5 _ _ ?_
      clear hK5 K5
      refine wp_seq_k (fun K7 hK7 => ?_)
      refine wp_block ?_
      refine e_region (fun R hR => ?_)
      refine e_op H rfl rfl (by decide) (x_move H rfl rfl) ?_
      clear H a; intro a H
      refine e_op H rfl rfl (by decide) (x_binI H rfl rfl rfl (b_add (z := ((64 * (j + 1) : Nat) : Int)) (by rw [IntKind.wrap_i64]; omega))) ?_
      clear H a; intro a H
      refine e_op H rfl rfl (by decide) (x_assign H rfl rfl) ?_
      clear H a; intro a H
      refine e_nil (hR.out _ _ ?_)
      clear hR R
      refine hK7 _ _ ?_
      clear hK7 K7
      refine e_region (fun R hR => ?_)
      refine e_op H rfl rfl (by decide) (x_move H rfl rfl) ?_
      clear H a; intro a H
      refine e_op H rfl rfl (by decide) (x_binI H rfl rfl rfl (b_add (z := ((j + 1 : Nat) : Int)) (by rw [IntKind.wrap_i64]; omega))) ?_
      clear H a; intro a H
      refine e_op H rfl rfl (by decide) (x_assign H rfl rfl) ?_
      clear H a; intro a H
      refine e_nil (hR.out _ _ ?_)
      clear hR R
      have hall2 : ∀ k, k < j + 1 → gb has k = true := by
        intro k h
        by_cases hkj : k = j
        · rw [hkj]; exact hgb
        · exact hall k (by omega)
      exact ⟨has.length - (j + 1), by omega, j + 1, by omega, rfl, hall2, H.sub ⟨rfl, rfl, rfl, rfl, trivial⟩, rfl⟩
    · skip
      have RWx := hh.ext E1
      obtain ⟨gx, ox, cx, hvx⟩ := RWx.pos (by rw [bools_len]; omega)
      simp only [Value.slice.injEq] at hvx
      obtain ⟨hax, _, _⟩ := hvx
      rw [hax] at RWx
      have hcell := RWx.cells j _ (bools_get _ _ (by omega))
      rw [hgb] at hcell
      refine wp_seq_k (fun K8 hK8 => ?_)
      refine wp_seq_k (fun K9 hK9 => ?_)
      refine e_region (fun R hR => ?_)
      refine e_op H rfl rfl (by decide) (x_move H rfl rfl) ?_
      clear H a; intro a H
      refine e_op H rfl rfl (by decide) (x_fieldAddr H rfl rfl (fa154_0 _ _ _)) ?_
      clear H a; intro a H
      refine e_op H rfl rfl (by decide) (x_load H rfl rfl (l_cell Try.isAgg152 (T1.at_ (i := 0) rfl))) ?_
      clear H a; intro a H
      refine e_op H rfl rfl (by decide) (x_builtin H rfl rfl (fun cs => len_sl Try.underlying152)) ?_
      clear H a; intro a H
      refine e_op H rfl rfl (by decide) (x_binI H rfl rfl rfl (b_lss (b := true) (dec_t (by omega)))) ?_
      clear H a; intro a H
      refine e_op H rfl rfl (by decide) (x_move H rfl rfl) ?_
      clear H a; intro a H
      refine e_opg H (wanted_true H rfl rfl rfl rfl) rfl (by decide) (x_fieldAddr H rfl rfl (fa154_0 _ _ _)) ?_
      clear H a; intro a H
      refine e_opg H (wanted_true H rfl rfl rfl rfl) rfl (by decide) (x_load H rfl rfl (l_cell Try.isAgg152 (T1.at_ (i := 0) rfl))) ?_
      clear H a; intro a H
      refine e_opg H (wanted_true H rfl rfl rfl rfl) rfl (by decide) (x_move H rfl rfl) ?_
      clear H a; intro a H
      rw [hax] at H
      refine e_opg H (wanted_true H rfl rfl rfl rfl) rfl (by decide) (x_indexAddr H rfl rfl rfl (i_sl (m := j) Try.underlying152 Try.sizeOf4 rfl (by omega))) ?_
      clear H a; intro a H
      refine e_opg H (wanted_true H rfl rfl rfl rfl) rfl (by decide) (x_load H rfl rfl (l_cell Try.isAgg4 (hcell))) ?_
      clear H a; intro a H
      refine e_op H rfl rfl (by decide) (x_pickT H rfl rfl rfl) ?_
      clear H a; intro a H
      refine e_nil (hR.out _ _ ?_)
      clear hR R
      refine hK9 _ _ ?_
      clear hK9 K9
      refine c_false H rfl ?_
      refine wp_exit ?_
      refine t_exit ?_
      refine t_exit ?_
      refine b_hit ?_
      clear hK8 K8
      refine hK3 _ _ ?_
      clear hK3 K3
      refine wp_seq_k (fun K10 hK10 => ?_)
      refine wp_seq_k (fun K11 hK11 => ?_)
      refine e_region (fun R hR => ?_)
      have hf : (front (gb has) has.length) = j := front_eq hj hall (.inr hgb)
      refine e_op H rfl rfl (by decide) (x_move H rfl rfl) ?_
      clear H a; intro a H
      refine e_op H rfl rfl (by decide) (x_move H rfl rfl) ?_
      clear H a; intro a H
      refine e_op H rfl rfl (by decide) (x_binI H rfl rfl rfl (b_gtr (b := decide (m < 64 * j)) (decide_eq_decide.2 (by omega)))) ?_
      clear H a; intro a H
      refine e_nil (hR.out _ _ ?_)
      clear hR R
      refine hK11 _ _ ?_
      clear hK11 K11
      refine c_split H rfl (fun ht => ?_) (fun ht => ?_)
      · skip
        have hm : m < 64 * j := of_decide_eq_true ht
        have hmin : min ((front (gb has) has.length) * 64) m = m := by rw [hf]; omega
        refine wp_seq_k (fun K12 hK12 => ?_)
        refine e_region (fun R hR => ?_)
        refine e_op H rfl rfl (by decide) (x_move H rfl rfl) ?_
        clear H a; intro a H
        refine e_op H rfl rfl (by decide) (x_assign H rfl rfl) ?_
        clear H a; intro a H
        refine e_nil (hR.out _ _ ?_)
        clear hR R
        refine hK12 _ _ ?_
        clear hK12 K12
        refine wp_ret ?_
        refine t_ret ?_
        rw [hmin]
        exact ret1 H rfl rfl ⟨rfl, E1⟩
      · skip
        have hm : ¬ m < 64 * j := of_decide_eq_false ht
        have hmin : min ((front (gb has) has.length) * 64) m = 64 * j := by rw [hf]; omega
        refine wp_skip ?_
        refine hK10 _ _ ?_
        clear hK10 K10
        refine wp_seq_k (fun K13 hK13 => ?_)
        refine e_region (fun R hR => ?_)
        refine e_op H rfl rfl (by decide) (x_move H rfl rfl) ?_
        clear H a; intro a H
        refine e_op H rfl rfl (by decide) (x_assign H rfl rfl) ?_
        clear H a; intro a H
        refine e_nil (hR.out _ _ ?_)
        clear hR R
        refine hK13 _ _ ?_
        clear hK13 K13
        refine wp_ret ?_
        rw [hmin]
        exact ret1 H rfl rfl ⟨rfl, E1⟩
    · skip
      skip
      refine wp_seq_k (fun K14 hK14 => ?_)
      refine wp_seq_k (fun K15 hK15 => ?_)
      refine e_region (fun R hR => ?_)
      refine e_op H rfl rfl (by decide) (x_move H rfl rfl) ?_
      clear H a; intro a H
      refine e_op H rfl rfl (by decide) (x_fieldAddr H rfl rfl (fa154_0 _ _ _)) ?_
      clear H a; intro a H
      refine e_op H rfl rfl (by decide) (x_load H rfl rfl (l_cell Try.isAgg152 (T1.at_ (i := 0) rfl))) ?_
      clear H a; intro a H
      refine e_op H rfl rfl (by decide) (x_builtin H rfl rfl (fun cs => len_sl Try.underlying152)) ?_
      clear H a; intro a H
      refine e_op H rfl rfl (by decide) (x_binI H rfl rfl rfl (b_lss (b := false) (dec_f (by omega)))) ?_
      clear H a; intro a H
      refine e_op H rfl rfl (by decide) (x_move H rfl rfl) ?_
      clear H a; intro a H
      refine e_skip H (wanted_false H rfl rfl rfl rfl) rfl (by decide) ?_
      clear H a; intro a H
      refine e_skip H (wanted_false H rfl rfl rfl rfl) rfl (by decide) ?_
      clear H a; intro a H
      refine e_skip H (wanted_false H rfl rfl rfl rfl) rfl (by decide) ?_
      clear H a; intro a H
      refine e_skip H (wanted_false H rfl rfl rfl rfl) rfl (by decide) ?_
      clear H a; intro a H
      refine e_skip H (wanted_false H rfl rfl rfl rfl) rfl (by decide) ?_
      clear H a; intro a H
      refine e_op H rfl rfl (by decide) (x_pickF H rfl rfl rfl) ?_
      clear H a; intro a H
      refine e_nil (hR.out _ _ ?_)
      clear hR R
      refine hK15 _ _ ?_
      clear hK15 K15
      refine c_false H rfl ?_
      refine wp_exit ?_
      refine t_exit ?_
      refine t_exit ?_
      refine b_hit ?_
      clear hK14 K14
      refine hK3 _ _ ?_
      clear hK3 K3
      refine wp_seq_k (fun K16 hK16 => ?_)
      refine wp_seq_k (fun K17 hK17 => ?_)
      refine e_region (fun R hR => ?_)
      have hf : (front (gb has) has.length) = j := front_eq hj hall (.inl hie)
      refine e_op H rfl rfl (by decide) (x_move H rfl rfl) ?_
      clear H a; intro a H
      refine e_op H rfl rfl (by decide) (x_move H rfl rfl) ?_
      clear H a; intro a H
      refine e_op H rfl rfl (by decide) (x_binI H rfl rfl rfl (b_gtr (b := decide (m < 64 * j)) (decide_eq_decide.2 (by omega)))) ?_
      clear H a; intro a H
      refine e_nil (hR.out _ _ ?_)
      clear hR R
      refine hK17 _ _ ?_
      clear hK17 K17
      refine c_split H rfl (fun ht => ?_) (fun ht => ?_)
      · skip
        have hm : m < 64 * j := of_decide_eq_true ht
        have hmin : min ((front (gb has) has.length) * 64) m = m := by rw [hf]; omega
        refine wp_seq_k (fun K18 hK18 => ?_)
        refine e_region (fun R hR => ?_)
        refine e_op H rfl rfl (by decide) (x_move H rfl rfl) ?_
        clear H a; intro a H
        refine e_op H rfl rfl (by decide) (x_assign H rfl rfl) ?_
        clear H a; intro a H
        refine e_nil (hR.out _ _ ?_)
        clear hR R
        refine hK18 _ _ ?_
        clear hK18 K18
        refine wp_ret ?_
        refine t_ret ?_
        rw [hmin]
        exact ret1 H rfl rfl ⟨rfl, E1⟩
      · skip
        have hm : ¬ m < 64 * j := of_decide_eq_false ht
        have hmin : min ((front (gb has) has.length) * 64) m = 64 * j := by rw [hf]; omega
        refine wp_skip ?_
        refine hK16 _ _ ?_
        clear hK16 K16
        refine wp_seq_k (fun K19 hK19 => ?_)
        refine e_region (fun R hR => ?_)
        refine e_op H rfl rfl (by decide) (x_move H rfl rfl) ?_
        clear H a; intro a H
        refine e_op H rfl rfl (by decide) (x_assign H rfl rfl) ?_
        clear H a; intro a H
        refine e_nil (hR.out _ _ ?_)
        clear hR R
        refine hK19 _ _ ?_
        clear hK19 K19
        refine wp_ret ?_
        rw [hmin]
        exact ret1 H rfl rfl ⟨rfl, E1⟩
theorem outL_any (B : Nat) (has acked : List Bool) (vh va : Value) (w0 : World) (hh : Rw w0 B 4 vh (bools has)) (ha : Rw w0 B 4 va (bools acked)) (hn : acked.length ≤ 1000000) :
    Calls Try.prog 132 #[.agg #[vh, va]] w0 fun e w' => ∃ v, e = .returned v ∧ Rw w' w0.heap.size 3 v (ints ((unm (gb acked) acked.length).take 8)) ∧ Ext w0 w' := by
  obtain ⟨ar, ac, hv, hac, _⟩ := ha.shape
  rw [bools_len] at hv hac
  subst hv
  refine calls_has (args := [.agg #[vh, .slice ar acked.length ac]]) Try.func132 rfl Try.ntmps132 (Nat.le_of_ble_eq_true rfl) (fun a H => ?_)
  simp only [argl, Nat.reduceAdd] at H
  refine wp_seq_k (fun K1 hK1 => ?_)
  refine e_region (fun R hR => ?_)
  refine e_op H rfl rfl (by decide) (x_box H rfl rfl bx_new) ?_
  clear H a; intro a H
  have T1 := Blk.new w0 154 [vh, (.slice ar acked.length ac)]
  have E1 := (Ext.refl w0).al (.cells #[vh, (.slice ar acked.length ac)] 154)
  obtain ⟨g1, hg1⟩ : ∃ g, g = w0.heap.size := ⟨_, rfl⟩
  rw [← hg1] at H T1
  generalize w0.alloc (.cells #[vh, (.slice ar acked.length ac)] 154) = w1 at *
  refine e_op H rfl rfl (by decide) (x_assign H rfl rfl) ?_
  clear H a; intro a H
  refine e_nil (hR.out _ _ ?_)
  clear hR R
  refine hK1 _ _ ?_
  clear hK1 K1
  refine wp_seq_k (fun K2 hK2 => ?_)
  refine e_region (fun R hR => ?_)
  refine e_op H rfl rfl (by decide) (x_assign H rfl rfl) ?_
  clear H a; intro a H
  refine e_nil (hR.out _ _ ?_)
  clear hR R
  refine hK2 _ _ ?_
  clear hK2 K2
  refine wp_seq_k (fun K3 hK3 => ?_)
  refine wp_seq_k (fun K4 hK4 => ?_)
  refine e_region (fun R hR => ?_)
  refine e_op H rfl rfl (by decide) (x_fieldAddr H rfl rfl (fa154_1 _ _ _)) ?_
  clear H a; intro a H
  refine e_op H rfl rfl (by decide) (x_load H rfl rfl (l_cell Try.isAgg152 (T1.at_ (i := 1) rfl))) ?_
  clear H a; intro a H
  refine e_op H rfl rfl (by decide) (x_builtin H rfl rfl (fun cs => len_sl Try.underlying152)) ?_
  clear H a; intro a H
  refine e_op H rfl rfl (by decide) (x_move H rfl rfl) ?_
  clear H a; intro a H
  refine e_nil (hR.out _ _ ?_)
  clear hR R
  refine hK4 _ _ ?_
  clear hK4 K4
  refine wp_block ?_
  refine wp_loop_ghost (fun n a w => ∃ i vo co, i ≤ acked.length ∧ n = acked.length - i ∧ Has a 28 [(1, .pointer (some ⟨g1, 0, none⟩)), (3, .slice vo (ints ((unm (gb acked) i).take 8)).length co), (6, .slice ar acked.length ac), (7, .int .i64 ((acked.length : Nat) : Int)), (8, .int .i64 (i : Int))] ∧ Rw w w1.heap.size 3 (.slice vo (ints ((unm (gb acked) i).take 8)).length co) (ints ((unm (gb acked) i).take 8)) ∧ Ext w1 w) (acked.length) ?_ ?_
  · skip
    exact ⟨0, none, 0, by omega, rfl, H.sub ⟨rfl, rfl, rfl, rfl, rfl, trivial⟩, Rw.nil _ _ _, Ext.refl _⟩
  · skip
    clear H
    intro n a w hI
    obtain ⟨i, vo, co, hi, rfl, H, RO, Ex⟩ := hI
    have hx88 : (ints ((unm (gb acked) i).take 8)).length ≤ 8 := by rw [ints_len, List.length_take]; omega
    rcases (show (i < acked.length ∧ gb acked i = true) ∨ (i < acked.length ∧ gb acked i = false ∧ (ints ((unm (gb acked) i).take 8)).length < 8) ∨ (i < acked.length ∧ gb acked i = false ∧ (ints ((unm (gb acked) i).take 8)).length = 8) ∨ i = acked.length by cases gb acked i <;> simp <;> omega) with ⟨hlt, hgb⟩ | ⟨hlt, hgb, hx8⟩ | ⟨hlt, hgb, hx8⟩ | rfl
    · skip
      have RWx := ha.ext (E1.tr Ex)
      obtain ⟨gx, ox, cx, hvx⟩ := RWx.pos (by rw [bools_len]; omega)
      simp only [Value.slice.injEq] at hvx
      obtain ⟨hax, _, _⟩ := hvx
      rw [hax] at RWx
      have hcell := RWx.cells i _ (bools_get _ _ (by omega))
      rw [hgb] at hcell
      refine wp_seq_k (fun K5 hK5 => ?_)
      refine e_region (fun R hR => ?_)
      refine e_op H rfl rfl (by decide) (x_binI H rfl rfl rfl (b_lss (b := true) (dec_t (by omega)))) ?_
      clear H a; intro a H
      refine e_nil (hR.out _ _ ?_)
      clear hR R
      refine hK5 _ _ ?_
      clear hK5 K5
      refine wp_seq_k (fun K6 hK6 => ?_)
      refine c_true H rfl ?_
      refine wp_skip ?_
      refine hK6 _ _ ?_
      clear hK6 K6
      refine wp_seq_k (fun K7 hK7 => ?_)
      refine wp_block ?_
      refine wp_seq_k (fun K8 hK8 => ?_)
      refine e_region (fun R hR => ?_)
      refine e_op H rfl rfl (by decide) (x_move H rfl rfl) ?_
      clear H a; intro a H
      refine e_op H rfl rfl (by decide) (x_assign H rfl rfl) ?_
      clear H a; intro a H
      refine e_nil (hR.out _ _ ?_)
      clear hR R
      refine hK8 _ _ ?_
      clear hK8 K8
      refine wp_seq_k (fun K9 hK9 => ?_)
      refine e_region (fun R hR => ?_)
      refine e_op H rfl rfl (by decide) (x_fieldAddr H rfl rfl (fa154_1 _ _ _)) ?_
      clear H a; intro a H
      refine e_op H rfl rfl (by decide) (x_load H rfl rfl (l_cell Try.isAgg152 ((T1.ext Ex).at_ (i := 1) rfl))) ?_
      clear H a; intro a H
      refine e_op H rfl rfl (by decide) (x_move H rfl rfl) ?_
      clear H a; intro a H
      rw [hax] at H
      refine e_op H rfl rfl (by decide) (x_indexAddr H rfl rfl rfl (i_sl (m := i) Try.underlying152 Try.sizeOf4 rfl (by omega))) ?_
      clear H a; intro a H
      refine e_op H rfl rfl (by decide) (x_load H rfl rfl (l_cell Try.isAgg4 (hcell))) ?_
      clear H a; intro a H
      refine e_op H rfl rfl (by decide) (x_un H rfl rfl (u_not (c := false) (rfl))) ?_
      clear H a; intro a H
      refine e_op H rfl rfl (by decide) (x_move H rfl rfl) ?_
      clear H a; intro a H
      refine e_skip H (wanted_false H rfl rfl rfl rfl) rfl (by decide) ?_
      clear H a; intro a H
      refine e_skip H (wanted_false H rfl rfl rfl rfl) rfl (by decide) ?_
      clear H a; intro a H
      refine e_skip H (wanted_false H rfl rfl rfl rfl) rfl (by decide) ?_
      clear H a; intro a H
      refine e_op H rfl rfl (by decide) (x_pickF H rfl rfl rfl) ?_
      clear H a; intro a H
      refine e_nil (hR.out _ _ ?_)
      clear hR R
      refine hK9 _ _ ?_
      clear hK9 K9
      refine c_false H rfl ?_
      refine wp_skip ?_
      refine hK7 _ _ ?_
      clear hK7 K7
      refine e_region (fun R hR => ?_)
      refine e_op H rfl rfl (by decide) (x_binI H rfl rfl rfl (b_add (z := ((i + 1 : Nat) : Int)) (by rw [IntKind.wrap_i64]; omega))) ?_
      clear H a; intro a H
      refine e_op H rfl rfl (by decide) (x_move H rfl rfl) ?_
      clear H a; intro a H
      refine e_nil (hR.out _ _ ?_)
      clear hR R
      have ht8 := take8 (gb acked) i
      rw [if_neg (by rw [hgb]; simp)] at ht8
      rw [← hax] at H
      exact ⟨acked.length - (i + 1), by omega, i + 1, vo, co, by omega, rfl, by rw [ht8]; exact H.sub ⟨rfl, rfl, rfl, rfl, rfl, trivial⟩, by rw [ht8]; exact RO, Ex⟩
    · skip
      have RWx := ha.ext (E1.tr Ex)
      obtain ⟨gx, ox, cx, hvx⟩ := RWx.pos (by rw [bools_len]; omega)
      simp only [Value.slice.injEq] at hvx
      obtain ⟨hax, _, _⟩ := hvx
      rw [hax] at RWx
      have hcell := RWx.cells i _ (bools_get _ _ (by omega))
      rw [hgb] at hcell
      refine wp_seq_k (fun K10 hK10 => ?_)
      refine e_region (fun R hR => ?_)
      refine e_op H rfl rfl (by decide) (x_binI H rfl rfl rfl (b_lss (b := true) (dec_t (by omega)))) ?_
      clear H a; intro a H
      refine e_nil (hR.out _ _ ?_)
      clear hR R
      refine hK10 _ _ ?_
      clear hK10 K10
      refine wp_seq_k (fun K11 hK11 => ?_)
      refine c_true H rfl ?_
      refine wp_skip ?_
      refine hK11 _ _ ?_
      clear hK11 K11
      refine wp_seq_k (fun K12 hK12 => ?_)
      refine wp_block ?_
      refine wp_seq_k (fun K13 hK13 => ?_)
      refine e_region (fun R hR => ?_)
      refine e_op H rfl rfl (by decide) (x_move H rfl rfl) ?_
      clear H a; intro a H
      refine e_op H rfl rfl (by decide) (x_assign H rfl rfl) ?_
      clear H a; intro a H
      refine e_nil (hR.out _ _ ?_)
      clear hR R
      refine hK13 _ _ ?_
      clear hK13 K13
      refine wp_seq_k (fun K14 hK14 => ?_)
      refine e_region (fun R hR => ?_)
      refine e_op H rfl rfl (by decide) (x_fieldAddr H rfl rfl (fa154_1 _ _ _)) ?_
      clear H a; intro a H
      refine e_op H rfl rfl (by decide) (x_load H rfl rfl (l_cell Try.isAgg152 ((T1.ext Ex).at_ (i := 1) rfl))) ?_
      clear H a; intro a H
      refine e_op H rfl rfl (by decide) (x_move H rfl rfl) ?_
      clear H a; intro a H
      rw [hax] at H
      refine e_op H rfl rfl (by decide) (x_indexAddr H rfl rfl rfl (i_sl (m := i) Try.underlying152 Try.sizeOf4 rfl (by omega))) ?_
      clear H a; intro a H
      refine e_op H rfl rfl (by decide) (x_load H rfl rfl (l_cell Try.isAgg4 (hcell))) ?_
      clear H a; intro a H
      refine e_op H rfl rfl (by decide) (x_un H rfl rfl (u_not (c := true) (rfl))) ?_
      clear H a; intro a H
      refine e_op H rfl rfl (by decide) (x_move H rfl rfl) ?_
      clear H a; intro a H
      refine e_opg H (wanted_true H rfl rfl rfl rfl) rfl (by decide) (x_move H rfl rfl) ?_
      clear H a; intro a H
      refine e_opg H (wanted_true H rfl rfl rfl rfl) rfl (by decide) (x_builtin H rfl rfl (fun cs => len_sl Try.underlying155)) ?_
      clear H a; intro a H
      refine e_opg H (wanted_true H rfl rfl rfl rfl) rfl (by decide) (x_binI H rfl rfl rfl (b_lss (b := true) (dec_t (by omega)))) ?_
      clear H a; intro a H
      refine e_op H rfl rfl (by decide) (x_pickT H rfl rfl rfl) ?_
      clear H a; intro a H
      refine e_nil (hR.out _ _ ?_)
      clear hR R
      refine hK14 _ _ ?_
      clear hK14 K14
      refine c_true H rfl ?_
      refine e_region (fun R hR => ?_)
      refine e_op H rfl rfl (by decide) (x_move H rfl rfl) ?_
      clear H a; intro a H
      refine e_op H rfl rfl (by decide) (x_move H rfl rfl) ?_
      clear H a; intro a H
      refine e_op H rfl rfl (by decide) (x_buildSlice H rfl rfl (bs155 _ _)) ?_
      clear H a; intro a H
      obtain ⟨el, hel⟩ : ∃ el, el = Value.int .i64 (i : Int) := ⟨_, rfl⟩
      have E3 := Ex.al (.cells [el].toArray 3)
      obtain ⟨v4, w4, hr4, RW4, G4, hb4⟩ := Rw.app el155 (w.alloc (.cells [el].toArray 3)) 155 w1.heap.size (RO.ext ((Ext.refl w).al (.cells [el].toArray 3))) (Rw.new w 0 3 [el] (Nat.zero_le _) (by simp)) (fun u hu => by simp at hu; rw [hu, hel]; rfl) (by simp; omega) (by omega) E3.sz
      have E4 : Ext w1 w4 := E3.grown G4 (fun k hk => (RO.blk k hk).1)
      rw [hel] at hr4
      obtain ⟨a4, c4, rfl, _⟩ := RW4.shape
      have ht8 := take8 (gb acked) i
      rw [if_pos ⟨hgb, by rw [ints_len] at hx8; omega⟩] at ht8
      have hx : ints ((unm (gb acked) (i + 1)).take 8) = (ints ((unm (gb acked) i).take 8)) ++ [el] := by rw [ht8, ints_app, hel]; rfl
      refine e_op H rfl rfl (by decide) (x_builtin H rfl rfl (fun cs => bi_app hr4)) ?_
      clear H a; intro a H
      refine e_op H rfl rfl (by decide) (x_assign H rfl rfl) ?_
      clear H a; intro a H
      refine e_nil (hR.out _ _ ?_)
      clear hR R
      refine hK12 _ _ ?_
      clear hK12 K12
      refine e_region (fun R hR => ?_)
      refine e_op H rfl rfl (by decide) (x_binI H rfl rfl rfl (b_add (z := ((i + 1 : Nat) : Int)) (by rw [IntKind.wrap_i64]; omega))) ?_
      clear H a; intro a H
      refine e_op H rfl rfl (by decide) (x_move H rfl rfl) ?_
      clear H a; intro a H
      refine e_nil (hR.out _ _ ?_)
      clear hR R
      rw [← hx] at RW4 H
      rw [← hax] at H
      exact ⟨acked.length - (i + 1), by omega, i + 1, a4, c4, by omega, rfl, H.sub ⟨rfl, rfl, rfl, rfl, rfl, trivial⟩, RW4, E4⟩
    · skip
      have RWx := ha.ext (E1.tr Ex)
      obtain ⟨gx, ox, cx, hvx⟩ := RWx.pos (by rw [bools_len]; omega)
      simp only [Value.slice.injEq] at hvx
      obtain ⟨hax, _, _⟩ := hvx
      rw [hax] at RWx
      have hcell := RWx.cells i _ (bools_get _ _ (by omega))
      rw [hgb] at hcell
      refine wp_seq_k (fun K15 hK15 => ?_)
      refine e_region (fun R hR => ?_)
      refine e_op H rfl rfl (by decide) (x_binI H rfl rfl rfl (b_lss (b := true) (dec_t (by omega)))) ?_
      clear H a; intro a H
      refine e_nil (hR.out _ _ ?_)
      clear hR R
      refine hK15 _ _ ?_
      clear hK15 K15
      refine wp_seq_k (fun K16 hK16 => ?_)
      refine c_true H rfl ?_
      refine wp_skip ?_
      refine hK16 _ _ ?_
      clear hK16 K16
      refine wp_seq_k (fun K17 hK17 => ?_)
      refine wp_block ?_
      refine wp_seq_k (fun K18 hK18 => ?_)
      refine e_region (fun R hR => ?_)
      refine e_op H rfl rfl (by decide) (x_move H rfl rfl) ?_
      clear H a; intro a H
      refine e_op H rfl rfl (by decide) (x_assign H rfl rfl) ?_
      clear H a; intro a H
      refine e_nil (hR.out _ _ ?_)
      clear hR R
      refine hK18 _ _ ?_
      clear hK18 K18
      refine wp_seq_k (fun K19 hK19 => ?_)
      refine e_region (fun R hR => ?_)
      refine e_op H rfl rfl (by decide) (x_fieldAddr H rfl rfl (fa154_1 _ _ _)) ?_
      clear H a; intro a H
      refine e_op H rfl rfl (by decide) (x_load H rfl rfl (l_cell Try.isAgg152 ((T1.ext Ex).at_ (i := 1) rfl))) ?_
      clear H a; intro a H
      refine e_op H rfl rfl (by decide) (x_move H rfl rfl) ?_
      clear H a; intro a H
      rw [hax] at H
      refine e_op H rfl rfl (by decide) (x_indexAddr H rfl rfl rfl (i_sl (m := i) Try.underlying152 Try.sizeOf4 rfl (by omega))) ?_
      clear H a; intro a H
      refine e_op H rfl rfl (by decide) (x_load H rfl rfl (l_cell Try.isAgg4 (hcell))) ?_
      clear H a; intro a H
      refine e_op H rfl rfl (by decide) (x_un H rfl rfl (u_not (c := true) (rfl))) ?_
      clear H a; intro a H
      refine e_op H rfl rfl (by decide) (x_move H rfl rfl) ?_
      clear H a; intro a H
      refine e_opg H (wanted_true H rfl rfl rfl rfl) rfl (by decide) (x_move H rfl rfl) ?_
      clear H a; intro a H
      refine e_opg H (wanted_true H rfl rfl rfl rfl) rfl (by decide) (x_builtin H rfl rfl (fun cs => len_sl Try.underlying155)) ?_
      clear H a; intro a H
      refine e_opg H (wanted_true H rfl rfl rfl rfl) rfl (by decide) (x_binI H rfl rfl rfl (b_lss (b := false) (dec_f (by omega)))) ?_
      clear H a; intro a H
      refine e_op H rfl rfl (by decide) (x_pickT H rfl rfl rfl) ?_
      clear H a; intro a H
      refine e_nil (hR.out _ _ ?_)
      clear hR R
      refine hK19 _ _ ?_
      clear hK19 K19
      refine c_false H rfl ?_
      refine wp_skip ?_
      refine hK17 _ _ ?_
      clear hK17 K17
      refine e_region (fun R hR => ?_)
      refine e_op H rfl rfl (by decide) (x_binI H rfl rfl rfl (b_add (z := ((i + 1 : Nat) : Int)) (by rw [IntKind.wrap_i64]; omega))) ?_
      clear H a; intro a H
      refine e_op H rfl rfl (by decide) (x_move H rfl rfl) ?_
      clear H a; intro a H
      refine e_nil (hR.out _ _ ?_)
      clear hR R
      have ht8 := take8 (gb acked) i
      rw [if_neg (by rw [hgb]; rintro ⟨_, h⟩; rw [ints_len] at hx8; omega)] at ht8
      rw [← hax] at H
      exact ⟨acked.length - (i + 1), by omega, i + 1, vo, co, by omega, rfl, by rw [ht8]; exact H.sub ⟨rfl, rfl, rfl, rfl, rfl, trivial⟩, by rw [ht8]; exact RO, Ex⟩
    · skip
      skip
      refine wp_seq_k (fun K20 hK20 => ?_)
      refine e_region (fun R hR => ?_)
      refine e_op H rfl rfl (by decide) (x_binI H rfl rfl rfl (b_lss (b := false) (dec_f (by omega)))) ?_
      clear H a; intro a H
      refine e_nil (hR.out _ _ ?_)
      clear hR R
      refine hK20 _ _ ?_
      clear hK20 K20
      refine wp_seq_k (fun K21 hK21 => ?_)
      refine c_false H rfl ?_
      refine wp_exit ?_
      refine t_exit ?_
      refine t_exit ?_
      refine b_hit ?_
      clear hK21 K21
      refine hK3 _ _ ?_
      clear hK3 K3
      refine wp_seq_k (fun K22 hK22 => ?_)
      refine e_region (fun R hR => ?_)
      refine e_op H rfl rfl (by decide) (x_move H rfl rfl) ?_
      clear H a; intro a H
      refine e_op H rfl rfl (by decide) (x_assign H rfl rfl) ?_
      clear H a; intro a H
      refine e_nil (hR.out _ _ ?_)
      clear hR R
      refine hK22 _ _ ?_
      clear hK22 K22
      refine wp_ret ?_
      exact ret1 H rfl rfl ⟨_, rfl, RO.mono E1.sz, E1.tr Ex⟩
theorem change_any (ad : Option Addr) (n c : Nat) (p : List UInt8) (at' z : Nat) (w0 : World) (hb : Bs w0 ad n p) (hz : ad = none → c = 0) (hn : n ≤ 1000000000) (hat : at' ≤ 1000000000000) (hzz : z ≤ 4294967295) :
    Calls Try.prog 133 #[.slice ad n c, .int .i64 (at' : Int), .int .u32 (z : Int)] w0 fun e w' => ∃ a c', e = .returned (.tuple #[.slice a n c', .bool (changed at' (8 * n) z 32)]) ∧ Ow w' w0.heap.size a n c' (flips p at' (8 * n) z 32) ∧ Ext w0 w' := by
  have hp := hb.leng
  refine calls_has (args := [.slice ad n c, .int .i64 (at' : Int), .int .u32 (z : Int)]) Try.func133 rfl Try.ntmps133 (Nat.le_of_ble_eq_true rfl) (fun a H => ?_)
  simp only [argl, Nat.reduceAdd] at H
  refine wp_seq_k (fun K1 hK1 => ?_)
  refine e_region (fun R hR => ?_)
  refine e_op H rfl rfl (by decide) (x_assign H rfl rfl) ?_
  clear H a; intro a H
  refine e_op H rfl rfl (by decide) (x_assign H rfl rfl) ?_
  clear H a; intro a H
  refine e_nil (hR.out _ _ ?_)
  clear hR R
  refine hK1 _ _ ?_
  clear hK1 K1
  refine wp_seq_k (fun K2 hK2 => ?_)
  refine e_region (fun R hR => ?_)
  obtain ⟨a1, c1, w1, hr, O1, E1⟩ := app_new hb (by omega) hz
  refine e_op H rfl rfl (by decide) (x_buildSlice H rfl rfl (bs0 _)) ?_
  clear H a; intro a H
  refine e_op H rfl rfl (by decide) (x_move H rfl rfl) ?_
  clear H a; intro a H
  refine e_op H rfl rfl (by decide) (x_builtin H rfl rfl (fun cs => bi_app hr)) ?_
  clear H a; intro a H
  refine e_op H rfl rfl (by decide) (x_assign H rfl rfl) ?_
  clear H a; intro a H
  refine e_nil (hR.out _ _ ?_)
  clear hR R
  refine hK2 _ _ ?_
  clear hK2 K2
  refine wp_seq_k (fun K3 hK3 => ?_)
  refine e_region (fun R hR => ?_)
  refine e_op H rfl rfl (by decide) (x_assign H rfl rfl) ?_
  clear H a; intro a H
  refine e_nil (hR.out _ _ ?_)
  clear hR R
  refine hK3 _ _ ?_
  clear hK3 K3
  refine wp_seq_k (fun K4 hK4 => ?_)
  refine wp_seq_k (fun K5 hK5 => ?_)
  refine e_region (fun R hR => ?_)
  refine e_op H rfl rfl (by decide) (x_move H rfl rfl) ?_
  clear H a; intro a H
  refine e_nil (hR.out _ _ ?_)
  clear hR R
  refine hK5 _ _ ?_
  clear hK5 K5
  refine wp_block ?_
  refine wp_loop_ghost (fun n' a w => ∃ k aa ca, k ≤ 32 ∧ n' = 32 - k ∧ Has a 46 [(1, .int .i64 (at' : Int)), (2, .int .u32 (z : Int)), (8, .slice aa n ca), (9, .bool (changed at' (8 * n) z k)), (15, .int .i64 (k : Int))] ∧ Ow w w0.heap.size aa n ca (flips p at' (8 * n) z k) ∧ Ext w0 w) (32) ?_ ?_
  · skip
    exact ⟨0, a1, c1, by omega, rfl, H.sub ⟨rfl, rfl, rfl, rfl, rfl, trivial⟩, O1, E1⟩
  · skip
    clear H O1 E1
    intro n a w hI
    obtain ⟨k, aa, ca, hk, rfl, H, O, E⟩ := hI
    rcases (show (k < 32 ∧ z.testBit k = false) ∨ (k < 32 ∧ z.testBit k = true ∧ at' + k < 8 * n) ∨ (k < 32 ∧ z.testBit k = true ∧ ¬ at' + k < 8 * n) ∨ k = 32 by cases z.testBit k <;> simp <;> omega) with ⟨hlt, hbit⟩ | ⟨hlt, hbit, hlt2⟩ | ⟨hlt, hbit, hlt2⟩ | rfl
    · skip
      skip
      refine wp_seq_k (fun K6 hK6 => ?_)
      refine e_region (fun R hR => ?_)
      refine e_op H rfl rfl (by decide) (x_binI H rfl rfl rfl (b_lss (b := true) (dec_t (by omega)))) ?_
      clear H a; intro a H
      refine e_nil (hR.out _ _ ?_)
      clear hR R
      refine hK6 _ _ ?_
      clear hK6 K6
      refine wp_seq_k (fun K7 hK7 => ?_)
      refine c_true H rfl ?_
      refine wp_skip ?_
      refine hK7 _ _ ?_
      clear hK7 K7
      refine wp_seq_k (fun K8 hK8 => ?_)
      refine wp_block ?_
      refine wp_seq_k (fun K9 hK9 => ?_)
      refine e_region (fun R hR => ?_)
      refine e_op H rfl rfl (by decide) (x_move H rfl rfl) ?_
      clear H a; intro a H
      refine e_op H rfl rfl (by decide) (x_assign H rfl rfl) ?_
      clear H a; intro a H
      refine e_nil (hR.out _ _ ?_)
      clear hR R
      refine hK9 _ _ ?_
      clear hK9 K9
      refine wp_seq_k (fun K10 hK10 => ?_)
      refine e_region (fun R hR => ?_)
      refine e_op H rfl rfl (by decide) (x_move H rfl rfl) ?_
      clear H a; intro a H
      refine e_op H rfl rfl (by decide) (x_move H rfl rfl) ?_
      clear H a; intro a H
      refine e_op H rfl rfl (by decide) (x_binI H rfl rfl rfl (b_add (z := ((at' + k : Nat) : Int)) (by rw [IntKind.wrap_i64]; omega))) ?_
      clear H a; intro a H
      refine e_op H rfl rfl (by decide) (x_assign H rfl rfl) ?_
      clear H a; intro a H
      refine e_nil (hR.out _ _ ?_)
      clear hR R
      refine hK10 _ _ ?_
      clear hK10 K10
      refine wp_seq_k (fun K11 hK11 => ?_)
      refine e_region (fun R hR => ?_)
      refine e_op H rfl rfl (by decide) (x_move H rfl rfl) ?_
      clear H a; intro a H
      refine e_op H rfl rfl (by decide) (x_move H rfl rfl) ?_
      clear H a; intro a H
      refine e_op H rfl rfl (by decide) (x_binI H rfl rfl rfl (b_shr (z := ((z / 2 ^ k : Nat) : Int)) (by omega) (by rw [Int.toNat_natCast, show min k IntKind.u32.bits = k by have : IntKind.u32.bits = 32 := rfl; omega]; simp))) ?_
      clear H a; intro a H
      refine e_op H rfl rfl (by decide) (x_binI H rfl rfl rfl (b_and (z := ((z / 2 ^ k % 2 : Nat) : Int)) (and1_nat _ (Nat.lt_of_le_of_lt (Nat.div_le_self _ _) (by omega))))) ?_
      clear H a; intro a H
      refine e_op H rfl rfl (by decide) (x_binI H rfl rfl rfl (b_eql (b := false) (by rw [Nat.testBit_eq_decide_div_mod_eq] at hbit; simp only [decide_eq_false_iff_not] at hbit; exact beq_f (by omega)))) ?_
      clear H a; intro a H
      refine e_op H rfl rfl (by decide) (x_move H rfl rfl) ?_
      clear H a; intro a H
      refine e_skip H (wanted_false H rfl rfl rfl rfl) rfl (by decide) ?_
      clear H a; intro a H
      refine e_skip H (wanted_false H rfl rfl rfl rfl) rfl (by decide) ?_
      clear H a; intro a H
      refine e_skip H (wanted_false H rfl rfl rfl rfl) rfl (by decide) ?_
      clear H a; intro a H
      refine e_skip H (wanted_false H rfl rfl rfl rfl) rfl (by decide) ?_
      clear H a; intro a H
      refine e_skip H (wanted_false H rfl rfl rfl rfl) rfl (by decide) ?_
      clear H a; intro a H
      refine e_op H rfl rfl (by decide) (x_pickF H rfl rfl rfl) ?_
      clear H a; intro a H
      refine e_nil (hR.out _ _ ?_)
      clear hR R
      refine hK11 _ _ ?_
      clear hK11 K11
      refine c_false H rfl ?_
      refine wp_skip ?_
      refine hK8 _ _ ?_
      clear hK8 K8
      refine e_region (fun R hR => ?_)
      refine e_op H rfl rfl (by decide) (x_binI H rfl rfl rfl (b_add (z := ((k + 1 : Nat) : Int)) (by rw [IntKind.wrap_i64]; omega))) ?_
      clear H a; intro a H
      refine e_op H rfl rfl (by decide) (x_move H rfl rfl) ?_
      clear H a; intro a H
      refine e_nil (hR.out _ _ ?_)
      clear hR R
      have hc : changed at' (8 * n) z (k + 1) = changed at' (8 * n) z k := by rw [changed]; rw [hbit]; simp
      have hm : flips p at' (8 * n) z (k + 1) = (flips p at' (8 * n) z k) := by rw [flips, if_neg (by rw [hbit]; simp)]
      exact ⟨32 - (k + 1), by omega, k + 1, aa, ca, by omega, rfl, by rw [hc]; exact H.sub ⟨rfl, rfl, rfl, rfl, rfl, trivial⟩, by rw [hm]; exact O, E⟩
    · skip
      have hfl : (flips p at' (8 * n) z k).length = n := by rw [flips_len, hp]
      obtain ⟨ga, hga2⟩ : ∃ g, aa = some ⟨g, 0, none⟩ := by
        rcases O.form with ⟨_, h0, _⟩ | ⟨g, _, h, _⟩
        · omega
        · exact ⟨g, h⟩
      subst hga2
      have hga := (O.lt rfl).1
      refine wp_seq_k (fun K12 hK12 => ?_)
      refine e_region (fun R hR => ?_)
      refine e_op H rfl rfl (by decide) (x_binI H rfl rfl rfl (b_lss (b := true) (dec_t (by omega)))) ?_
      clear H a; intro a H
      refine e_nil (hR.out _ _ ?_)
      clear hR R
      refine hK12 _ _ ?_
      clear hK12 K12
      refine wp_seq_k (fun K13 hK13 => ?_)
      refine c_true H rfl ?_
      refine wp_skip ?_
      refine hK13 _ _ ?_
      clear hK13 K13
      refine wp_seq_k (fun K14 hK14 => ?_)
      refine wp_block ?_
      refine wp_seq_k (fun K15 hK15 => ?_)
      refine e_region (fun R hR => ?_)
      refine e_op H rfl rfl (by decide) (x_move H rfl rfl) ?_
      clear H a; intro a H
      refine e_op H rfl rfl (by decide) (x_assign H rfl rfl) ?_
      clear H a; intro a H
      refine e_nil (hR.out _ _ ?_)
      clear hR R
      refine hK15 _ _ ?_
      clear hK15 K15
      refine wp_seq_k (fun K16 hK16 => ?_)
      refine e_region (fun R hR => ?_)
      refine e_op H rfl rfl (by decide) (x_move H rfl rfl) ?_
      clear H a; intro a H
      refine e_op H rfl rfl (by decide) (x_move H rfl rfl) ?_
      clear H a; intro a H
      refine e_op H rfl rfl (by decide) (x_binI H rfl rfl rfl (b_add (z := ((at' + k : Nat) : Int)) (by rw [IntKind.wrap_i64]; omega))) ?_
      clear H a; intro a H
      refine e_op H rfl rfl (by decide) (x_assign H rfl rfl) ?_
      clear H a; intro a H
      refine e_nil (hR.out _ _ ?_)
      clear hR R
      refine hK16 _ _ ?_
      clear hK16 K16
      refine wp_seq_k (fun K17 hK17 => ?_)
      refine e_region (fun R hR => ?_)
      refine e_op H rfl rfl (by decide) (x_move H rfl rfl) ?_
      clear H a; intro a H
      refine e_op H rfl rfl (by decide) (x_move H rfl rfl) ?_
      clear H a; intro a H
      refine e_op H rfl rfl (by decide) (x_binI H rfl rfl rfl (b_shr (z := ((z / 2 ^ k : Nat) : Int)) (by omega) (by rw [Int.toNat_natCast, show min k IntKind.u32.bits = k by have : IntKind.u32.bits = 32 := rfl; omega]; simp))) ?_
      clear H a; intro a H
      refine e_op H rfl rfl (by decide) (x_binI H rfl rfl rfl (b_and (z := ((z / 2 ^ k % 2 : Nat) : Int)) (and1_nat _ (Nat.lt_of_le_of_lt (Nat.div_le_self _ _) (by omega))))) ?_
      clear H a; intro a H
      refine e_op H rfl rfl (by decide) (x_binI H rfl rfl rfl (b_eql (b := true) (by rw [Nat.testBit_eq_decide_div_mod_eq] at hbit; simp only [decide_eq_true_eq] at hbit; exact beq_t (by omega)))) ?_
      clear H a; intro a H
      refine e_op H rfl rfl (by decide) (x_move H rfl rfl) ?_
      clear H a; intro a H
      refine e_opg H (wanted_true H rfl rfl rfl rfl) rfl (by decide) (x_move H rfl rfl) ?_
      clear H a; intro a H
      refine e_opg H (wanted_true H rfl rfl rfl rfl) rfl (by decide) (x_move H rfl rfl) ?_
      clear H a; intro a H
      refine e_opg H (wanted_true H rfl rfl rfl rfl) rfl (by decide) (x_builtin H rfl rfl (fun cs => len_sl Try.underlying22)) ?_
      clear H a; intro a H
      refine e_opg H (wanted_true H rfl rfl rfl rfl) rfl (by decide) (x_binI H rfl rfl rfl (b_mul (z := ((8 * n : Nat) : Int)) (by rw [IntKind.wrap_i64]; omega))) ?_
      clear H a; intro a H
      refine e_opg H (wanted_true H rfl rfl rfl rfl) rfl (by decide) (x_binI H rfl rfl rfl (b_lss (b := true) (dec_t (by omega)))) ?_
      clear H a; intro a H
      refine e_op H rfl rfl (by decide) (x_pickT H rfl rfl rfl) ?_
      clear H a; intro a H
      refine e_nil (hR.out _ _ ?_)
      clear hR R
      refine hK17 _ _ ?_
      clear hK17 K17
      refine c_true H rfl ?_
      refine wp_seq_k (fun K18 hK18 => ?_)
      refine e_tail 10 (by kernel_rfl) (by kernel_rfl) (fun R hR => ?_)
      simp only [List.take_succ_cons, List.take_zero, List.drop_succ_cons, List.drop_zero]
      refine s_op H rfl rfl (by decide) (x_move H rfl rfl) ?_
      clear H a; intro a H
      refine s_op H rfl rfl (by decide) (x_move H rfl rfl) ?_
      clear H a; intro a H
      refine s_op H rfl rfl (by decide) (x_binI H rfl rfl rfl (b_quo (z := (((at' + k) / 8 : Nat) : Int)) (by decide) (by rw [Int.tdiv_eq_ediv_of_nonneg (by omega), IntKind.wrap_i64]; omega))) ?_
      clear H a; intro a H
      refine s_op H rfl rfl (by decide) (x_indexAddr H rfl rfl rfl (i_sl (m := (at' + k) / 8) Try.underlying22 Try.sizeOf5 rfl (by omega))) ?_
      clear H a; intro a H
      refine s_op H rfl rfl (by decide) (x_load H rfl rfl (l_cell Try.isAgg5 (O.drew.bs.one ((at' + k) / 8) (by omega)))) ?_
      clear H a; intro a H
      refine s_op H rfl rfl (by decide) (x_move H rfl rfl) ?_
      clear H a; intro a H
      refine s_op H rfl rfl (by decide) (x_binI H rfl rfl rfl (b_rem (z := (((at' + k) % 8 : Nat) : Int)) (by decide) (by rw [Int.tmod_eq_emod_of_nonneg (by omega)]; omega))) ?_
      clear H a; intro a H
      refine s_op H rfl rfl (by decide) (x_binI H rfl rfl rfl (b_shl (z := (2 : Int) ^ ((at' + k) % 8) % 256) (by omega) (by rw [Int.toNat_natCast, show min ((at' + k) % 8) IntKind.u8.bits = (at' + k) % 8 by have : IntKind.u8.bits = 8 := rfl; omega, IntKind.wrap_u8, Int.one_mul]))) ?_
      clear H a; intro a H
      refine s_op H rfl rfl (by decide) (x_binI H rfl rfl rfl (b_xor (z := ((((flips p at' (8 * n) z k)[(at' + k) / 8]?.getD 0) ^^^ UInt8.ofNat (2 ^ ((at' + k) % 8))).toNat : Int)) (xor_pow _ _ _))) ?_
      clear H a; intro a H
      refine s_op H rfl rfl (by decide) (x_indexAddr H rfl rfl rfl (i_sl0 (m := (at' + k) / 8) Try.underlying22 Try.sizeOf5 rfl (by omega))) ?_
      clear H a; intro a H
      refine wpStill_nil ?_
      refine e_st H rfl rfl (x_store H rfl rfl rfl (st_cell rfl rfl Try.sizeOf5 (O.drew.rw_.froz _) (by have := O.drew.bs.one ((at' + k) / 8) (by omega); rw [Nat.zero_add] at this; rw [this]; rfl))) ?_
      refine e_nil (hR.out _ _ ?_)
      clear hR R
      have O2 := O.drew.setAt ((at' + k) / 8) (by omega) (((flips p at' (8 * n) z k)[(at' + k) / 8]?.getD 0) ^^^ UInt8.ofNat (2 ^ ((at' + k) % 8))) _ rfl
      have hm : flips p at' (8 * n) z (k + 1) = (flips p at' (8 * n) z k).set ((at' + k) / 8) (((flips p at' (8 * n) z k)[(at' + k) / 8]?.getD 0) ^^^ UInt8.ofNat (2 ^ ((at' + k) % 8))) := by rw [flips, if_pos (by rw [hbit]; simp [hlt2])]; rfl
      rw [← hm] at O2
      replace E := (E.dr).st hga ((at' + k) / 8) (.int .u8 ((((flips p at' (8 * n) z k)[(at' + k) / 8]?.getD 0) ^^^ UInt8.ofNat (2 ^ ((at' + k) % 8))).toNat : Int))
      generalize (w.drew.setCell ⟨ga, (at' + k) / 8, none⟩ (.int .u8 ((((flips p at' (8 * n) z k)[(at' + k) / 8]?.getD 0) ^^^ UInt8.ofNat (2 ^ ((at' + k) % 8))).toNat : Int))) = wb at *
      refine hK18 _ _ ?_
      clear hK18 K18
      refine e_region (fun R hR => ?_)
      refine e_op H rfl rfl (by decide) (x_assign H rfl rfl) ?_
      clear H a; intro a H
      refine e_nil (hR.out _ _ ?_)
      clear hR R
      refine hK14 _ _ ?_
      clear hK14 K14
      refine e_region (fun R hR => ?_)
      refine e_op H rfl rfl (by decide) (x_binI H rfl rfl rfl (b_add (z := ((k + 1 : Nat) : Int)) (by rw [IntKind.wrap_i64]; omega))) ?_
      clear H a; intro a H
      refine e_op H rfl rfl (by decide) (x_move H rfl rfl) ?_
      clear H a; intro a H
      refine e_nil (hR.out _ _ ?_)
      clear hR R
      have hc : changed at' (8 * n) z (k + 1) = true := by rw [changed, hbit]; simp [hlt2]
      exact ⟨32 - (k + 1), by omega, k + 1, some ⟨ga, 0, none⟩, ca, by omega, rfl, by rw [hc]; exact H.sub ⟨rfl, rfl, rfl, rfl, rfl, trivial⟩, O2, E⟩
    · skip
      skip
      refine wp_seq_k (fun K19 hK19 => ?_)
      refine e_region (fun R hR => ?_)
      refine e_op H rfl rfl (by decide) (x_binI H rfl rfl rfl (b_lss (b := true) (dec_t (by omega)))) ?_
      clear H a; intro a H
      refine e_nil (hR.out _ _ ?_)
      clear hR R
      refine hK19 _ _ ?_
      clear hK19 K19
      refine wp_seq_k (fun K20 hK20 => ?_)
      refine c_true H rfl ?_
      refine wp_skip ?_
      refine hK20 _ _ ?_
      clear hK20 K20
      refine wp_seq_k (fun K21 hK21 => ?_)
      refine wp_block ?_
      refine wp_seq_k (fun K22 hK22 => ?_)
      refine e_region (fun R hR => ?_)
      refine e_op H rfl rfl (by decide) (x_move H rfl rfl) ?_
      clear H a; intro a H
      refine e_op H rfl rfl (by decide) (x_assign H rfl rfl) ?_
      clear H a; intro a H
      refine e_nil (hR.out _ _ ?_)
      clear hR R
      refine hK22 _ _ ?_
      clear hK22 K22
      refine wp_seq_k (fun K23 hK23 => ?_)
      refine e_region (fun R hR => ?_)
      refine e_op H rfl rfl (by decide) (x_move H rfl rfl) ?_
      clear H a; intro a H
      refine e_op H rfl rfl (by decide) (x_move H rfl rfl) ?_
      clear H a; intro a H
      refine e_op H rfl rfl (by decide) (x_binI H rfl rfl rfl (b_add (z := ((at' + k : Nat) : Int)) (by rw [IntKind.wrap_i64]; omega))) ?_
      clear H a; intro a H
      refine e_op H rfl rfl (by decide) (x_assign H rfl rfl) ?_
      clear H a; intro a H
      refine e_nil (hR.out _ _ ?_)
      clear hR R
      refine hK23 _ _ ?_
      clear hK23 K23
      refine wp_seq_k (fun K24 hK24 => ?_)
      refine e_region (fun R hR => ?_)
      refine e_op H rfl rfl (by decide) (x_move H rfl rfl) ?_
      clear H a; intro a H
      refine e_op H rfl rfl (by decide) (x_move H rfl rfl) ?_
      clear H a; intro a H
      refine e_op H rfl rfl (by decide) (x_binI H rfl rfl rfl (b_shr (z := ((z / 2 ^ k : Nat) : Int)) (by omega) (by rw [Int.toNat_natCast, show min k IntKind.u32.bits = k by have : IntKind.u32.bits = 32 := rfl; omega]; simp))) ?_
      clear H a; intro a H
      refine e_op H rfl rfl (by decide) (x_binI H rfl rfl rfl (b_and (z := ((z / 2 ^ k % 2 : Nat) : Int)) (and1_nat _ (Nat.lt_of_le_of_lt (Nat.div_le_self _ _) (by omega))))) ?_
      clear H a; intro a H
      refine e_op H rfl rfl (by decide) (x_binI H rfl rfl rfl (b_eql (b := true) (by rw [Nat.testBit_eq_decide_div_mod_eq] at hbit; simp only [decide_eq_true_eq] at hbit; exact beq_t (by omega)))) ?_
      clear H a; intro a H
      refine e_op H rfl rfl (by decide) (x_move H rfl rfl) ?_
      clear H a; intro a H
      refine e_opg H (wanted_true H rfl rfl rfl rfl) rfl (by decide) (x_move H rfl rfl) ?_
      clear H a; intro a H
      refine e_opg H (wanted_true H rfl rfl rfl rfl) rfl (by decide) (x_move H rfl rfl) ?_
      clear H a; intro a H
      refine e_opg H (wanted_true H rfl rfl rfl rfl) rfl (by decide) (x_builtin H rfl rfl (fun cs => len_sl Try.underlying22)) ?_
      clear H a; intro a H
      refine e_opg H (wanted_true H rfl rfl rfl rfl) rfl (by decide) (x_binI H rfl rfl rfl (b_mul (z := ((8 * n : Nat) : Int)) (by rw [IntKind.wrap_i64]; omega))) ?_
      clear H a; intro a H
      refine e_opg H (wanted_true H rfl rfl rfl rfl) rfl (by decide) (x_binI H rfl rfl rfl (b_lss (b := false) (dec_f (by omega)))) ?_
      clear H a; intro a H
      refine e_op H rfl rfl (by decide) (x_pickT H rfl rfl rfl) ?_
      clear H a; intro a H
      refine e_nil (hR.out _ _ ?_)
      clear hR R
      refine hK24 _ _ ?_
      clear hK24 K24
      refine c_false H rfl ?_
      refine wp_skip ?_
      refine hK21 _ _ ?_
      clear hK21 K21
      refine e_region (fun R hR => ?_)
      refine e_op H rfl rfl (by decide) (x_binI H rfl rfl rfl (b_add (z := ((k + 1 : Nat) : Int)) (by rw [IntKind.wrap_i64]; omega))) ?_
      clear H a; intro a H
      refine e_op H rfl rfl (by decide) (x_move H rfl rfl) ?_
      clear H a; intro a H
      refine e_nil (hR.out _ _ ?_)
      clear hR R
      have hc : changed at' (8 * n) z (k + 1) = changed at' (8 * n) z k := by rw [changed]; simp [hlt2]
      have hm : flips p at' (8 * n) z (k + 1) = (flips p at' (8 * n) z k) := by rw [flips, if_neg (by simp [hlt2])]
      exact ⟨32 - (k + 1), by omega, k + 1, aa, ca, by omega, rfl, by rw [hc]; exact H.sub ⟨rfl, rfl, rfl, rfl, rfl, trivial⟩, by rw [hm]; exact O, E⟩
    · skip
      skip
      refine wp_seq_k (fun K25 hK25 => ?_)
      refine e_region (fun R hR => ?_)
      refine e_op H rfl rfl (by decide) (x_binI H rfl rfl rfl (b_lss (b := false) (dec_f (by omega)))) ?_
      clear H a; intro a H
      refine e_nil (hR.out _ _ ?_)
      clear hR R
      refine hK25 _ _ ?_
      clear hK25 K25
      refine wp_seq_k (fun K26 hK26 => ?_)
      refine c_false H rfl ?_
      refine wp_exit ?_
      refine t_exit ?_
      refine t_exit ?_
      refine b_hit ?_
      clear hK26 K26
      refine hK4 _ _ ?_
      clear hK4 K4
      refine wp_seq_k (fun K27 hK27 => ?_)
      refine e_region (fun R hR => ?_)
      refine e_op H rfl rfl (by decide) (x_move H rfl rfl) ?_
      clear H a; intro a H
      refine e_op H rfl rfl (by decide) (x_move H rfl rfl) ?_
      clear H a; intro a H
      refine e_op H rfl rfl (by decide) (x_assign H rfl rfl) ?_
      clear H a; intro a H
      refine e_op H rfl rfl (by decide) (x_assign H rfl rfl) ?_
      clear H a; intro a H
      refine e_nil (hR.out _ _ ?_)
      clear hR R
      refine hK27 _ _ ?_
      clear hK27 K27
      refine wp_ret ?_
      exact ret2 H rfl rfl rfl ⟨aa, ca, rfl, O, E⟩
theorem fa148_0 (b : Nat) (w : World) : (Instr.fieldAt 148 (.pointer (some ⟨b, 0, none⟩)) 0).run Try.prog w = .ok (.pointer (some ⟨b, 0, none⟩)) w := by kernel_rfl
theorem fa148_1 (b : Nat) (w : World) : (Instr.fieldAt 148 (.pointer (some ⟨b, 0, none⟩)) 1).run Try.prog w = .ok (.pointer (some ⟨b, 1, none⟩)) w := by kernel_rfl
theorem bytesF_any (ad : Option Addr) (n c : Nat) (p : List UInt8) (t : Nat) (w0 : World) (hb : Bs w0 ad n p) (hz : ad = none → c = 0) (hn : n ≤ 140737488351232) (ht8 : t ≤ 255) :
    Calls Try.prog 98 #[.agg #[.slice ad n c, .int .u8 (t : Int)]] w0 fun e w' => ∃ a c', e = .returned (.slice a (fileB p t).length c') ∧ Ow w' w0.heap.size a (fileB p t).length c' (fileB p t) ∧ Ext w0 w' := by
  have hp := hb.leng
  refine calls_has (args := [.agg #[.slice ad n c, .int .u8 (t : Int)]]) Try.func98 rfl Try.ntmps98 (Nat.le_of_ble_eq_true rfl) (fun a H => ?_)
  simp only [argl, Nat.reduceAdd] at H
  refine wp_seq_k (fun K1 hK1 => ?_)
  refine e_region (fun R hR => ?_)
  refine e_op H rfl rfl (by decide) (x_box H rfl rfl bx_new) ?_
  clear H a; intro a H
  have T1 := Blk.new w0 148 [.slice ad n c, .int .u8 (t : Int)]
  have E1 := (Ext.refl w0).al (.cells #[.slice ad n c, .int .u8 (t : Int)] 148)
  obtain ⟨g1, hg1⟩ : ∃ g, g = w0.heap.size := ⟨_, rfl⟩
  rw [← hg1] at H T1
  generalize w0.alloc (.cells #[.slice ad n c, .int .u8 (t : Int)] 148) = w1 at *
  refine e_op H rfl rfl (by decide) (x_assign H rfl rfl) ?_
  clear H a; intro a H
  refine e_nil (hR.out _ _ ?_)
  clear hR R
  refine hK1 _ _ ?_
  clear hK1 K1
  refine wp_seq_k (fun K2 hK2 => ?_)
  refine e_region (fun R hR => ?_)
  refine e_op H rfl rfl (by decide) (x_assign H rfl rfl) ?_
  clear H a; intro a H
  refine e_nil (hR.out _ _ ?_)
  clear hR R
  refine hK2 _ _ ?_
  clear hK2 K2
  refine wp_seq_k (fun K3 hK3 => ?_)
  refine wp_seq_k (fun K4 hK4 => ?_)
  refine e_region (fun R hR => ?_)
  refine e_op H rfl rfl (by decide) (x_fieldAddr H rfl rfl (fa148_1 _ _)) ?_
  clear H a; intro a H
  refine e_op H rfl rfl (by decide) (x_load H rfl rfl (l_cell Try.isAgg5 (T1.at_ (i := 1) rfl))) ?_
  clear H a; intro a H
  refine e_op H rfl rfl (by decide) (x_binI H rfl rfl rfl (b_rem (z := ((t % 40 : Nat) : Int)) (by decide) (by rw [Int.tmod_eq_emod_of_nonneg (by omega)]; omega))) ?_
  clear H a; intro a H
  refine e_op H rfl rfl (by decide) (x_binI H rfl rfl rfl (b_add (z := ((1 + t % 40 : Nat) : Int)) (by rw [IntKind.wrap_u8]; omega))) ?_
  clear H a; intro a H
  refine e_op H rfl rfl (by decide) (x_move H rfl rfl) ?_
  clear H a; intro a H
  refine e_nil (hR.out _ _ ?_)
  clear hR R
  refine hK4 _ _ ?_
  clear hK4 K4
  refine wp_block ?_
  refine wp_loop_ghost (fun n' a w => ∃ i aa ca, i ≤ 1 + t % 40 ∧ n' = 1 + t % 40 - i ∧ Has a 23 [(1, .pointer (some ⟨g1, 0, none⟩)), (3, .slice aa (repB p i).length ca), (7, .int .u8 ((1 + t % 40 : Nat) : Int)), (8, .int .u8 (i : Int))] ∧ Ow w w1.heap.size aa (repB p i).length ca (repB p i) ∧ Ext w1 w) (1 + t % 40) ?_ ?_
  · skip
    exact ⟨0, none, 0, by omega, rfl, H.sub ⟨rfl, rfl, rfl, rfl, trivial⟩, ow_nil _ _, Ext.refl _⟩
  · skip
    clear H
    intro n a w hI
    obtain ⟨i, aa, ca, hi, rfl, H, O, Ex⟩ := hI
    have hrl0 := repB_len p i
    rcases (show (i < 1 + t % 40 ∧ 2000 < (repB p i).length + n) ∨ (i < 1 + t % 40 ∧ ¬ 2000 < (repB p i).length + n) ∨ i = 1 + t % 40 by omega) with ⟨hlt, hs⟩ | ⟨hlt, hs⟩ | rfl
    · skip
      skip
      refine wp_seq_k (fun K5 hK5 => ?_)
      refine e_region (fun R hR => ?_)
      refine e_op H rfl rfl (by decide) (x_binI H rfl rfl rfl (b_lss (b := true) (dec_t (by omega)))) ?_
      clear H a; intro a H
      refine e_nil (hR.out _ _ ?_)
      clear hR R
      refine hK5 _ _ ?_
      clear hK5 K5
      refine wp_seq_k (fun K6 hK6 => ?_)
      refine c_true H rfl ?_
      refine wp_skip ?_
      refine hK6 _ _ ?_
      clear hK6 K6
      refine wp_seq_k (fun K7 hK7 => ?_)
      refine wp_block ?_
      refine wp_seq_k (fun K8 hK8 => ?_)
      refine wp_seq_k (fun K9 hK9 => ?_)
      refine e_region (fun R hR => ?_)
      refine e_op H rfl rfl (by decide) (x_move H rfl rfl) ?_
      clear H a; intro a H
      refine e_op H rfl rfl (by decide) (x_builtin H rfl rfl (fun cs => len_sl Try.underlying22)) ?_
      clear H a; intro a H
      refine e_op H rfl rfl (by decide) (x_fieldAddr H rfl rfl (fa148_0 _ _)) ?_
      clear H a; intro a H
      refine e_op H rfl rfl (by decide) (x_load H rfl rfl (l_cell Try.isAgg22 ((T1.ext Ex).at_ (i := 0) rfl))) ?_
      clear H a; intro a H
      refine e_op H rfl rfl (by decide) (x_builtin H rfl rfl (fun cs => len_sl Try.underlying22)) ?_
      clear H a; intro a H
      refine e_op H rfl rfl (by decide) (x_binI H rfl rfl rfl (b_add (z := (((repB p i).length + n : Nat) : Int)) (by rw [IntKind.wrap_i64]; omega))) ?_
      clear H a; intro a H
      refine e_op H rfl rfl (by decide) (x_binI H rfl rfl rfl (b_gtr (b := true) (dec_t (by omega)))) ?_
      clear H a; intro a H
      refine e_nil (hR.out _ _ ?_)
      clear hR R
      refine hK9 _ _ ?_
      clear hK9 K9
      refine c_true H rfl ?_
      refine wp_exit ?_
      refine t_exit ?_
      refine b_pass (by decide) ?_
      refine t_exit ?_
      refine t_exit ?_
      refine b_hit ?_
      clear hK8 K8
      clear hK7 K7
      refine hK3 _ _ ?_
      clear hK3 K3
      refine wp_seq_k (fun K10 hK10 => ?_)
      refine e_region (fun R hR => ?_)
      refine e_op H rfl rfl (by decide) (x_move H rfl rfl) ?_
      clear H a; intro a H
      refine e_op H rfl rfl (by decide) (x_assign H rfl rfl) ?_
      clear H a; intro a H
      refine e_nil (hR.out _ _ ?_)
      clear hR R
      refine hK10 _ _ ?_
      clear hK10 K10
      refine wp_ret ?_
      have hst : fileB p t = (repB p i) := by
        have := repB_stop p i (by omega) (1 + t % 40 - i)
        rw [show i + (1 + t % 40 - i) = 1 + t % 40 by omega] at this
        exact this
      rw [hst]
      exact ret1 H rfl rfl ⟨aa, ca, rfl, O.mono E1.sz, E1.tr Ex⟩
    · skip
      skip
      refine wp_seq_k (fun K11 hK11 => ?_)
      refine e_region (fun R hR => ?_)
      refine e_op H rfl rfl (by decide) (x_binI H rfl rfl rfl (b_lss (b := true) (dec_t (by omega)))) ?_
      clear H a; intro a H
      refine e_nil (hR.out _ _ ?_)
      clear hR R
      refine hK11 _ _ ?_
      clear hK11 K11
      refine wp_seq_k (fun K12 hK12 => ?_)
      refine c_true H rfl ?_
      refine wp_skip ?_
      refine hK12 _ _ ?_
      clear hK12 K12
      refine wp_seq_k (fun K13 hK13 => ?_)
      refine wp_block ?_
      refine wp_seq_k (fun K14 hK14 => ?_)
      refine wp_seq_k (fun K15 hK15 => ?_)
      refine e_region (fun R hR => ?_)
      refine e_op H rfl rfl (by decide) (x_move H rfl rfl) ?_
      clear H a; intro a H
      refine e_op H rfl rfl (by decide) (x_builtin H rfl rfl (fun cs => len_sl Try.underlying22)) ?_
      clear H a; intro a H
      refine e_op H rfl rfl (by decide) (x_fieldAddr H rfl rfl (fa148_0 _ _)) ?_
      clear H a; intro a H
      refine e_op H rfl rfl (by decide) (x_load H rfl rfl (l_cell Try.isAgg22 ((T1.ext Ex).at_ (i := 0) rfl))) ?_
      clear H a; intro a H
      refine e_op H rfl rfl (by decide) (x_builtin H rfl rfl (fun cs => len_sl Try.underlying22)) ?_
      clear H a; intro a H
      refine e_op H rfl rfl (by decide) (x_binI H rfl rfl rfl (b_add (z := (((repB p i).length + n : Nat) : Int)) (by rw [IntKind.wrap_i64]; omega))) ?_
      clear H a; intro a H
      refine e_op H rfl rfl (by decide) (x_binI H rfl rfl rfl (b_gtr (b := false) (dec_f (by omega)))) ?_
      clear H a; intro a H
      refine e_nil (hR.out _ _ ?_)
      clear hR R
      refine hK15 _ _ ?_
      clear hK15 K15
      refine c_false H rfl ?_
      refine wp_skip ?_
      refine hK14 _ _ ?_
      clear hK14 K14
      refine e_region (fun R hR => ?_)
      refine e_op H rfl rfl (by decide) (x_move H rfl rfl) ?_
      clear H a; intro a H
      refine e_op H rfl rfl (by decide) (x_fieldAddr H rfl rfl (fa148_0 _ _)) ?_
      clear H a; intro a H
      refine e_op H rfl rfl (by decide) (x_load H rfl rfl (l_cell Try.isAgg22 ((T1.ext Ex).at_ (i := 0) rfl))) ?_
      clear H a; intro a H
      obtain ⟨a2, c2, w2, hr, O2, G2⟩ := run_app w 22 w1.heap.size aa (repB p i).length ca (repB p i) ad n c p O ((E1.tr Ex).bs hb) (by omega) Ex.sz hz
      have Ex2 : Ext w1 w2 := Ex.app O (Nat.le_refl _) G2
      have hrp : repB p (i + 1) = (repB p i) ++ p := by rw [repB, if_neg (by omega)]
      have hrl : (repB p (i + 1)).length = (repB p i).length + n := by rw [hrp, List.length_append, hp]
      refine e_op H rfl rfl (by decide) (x_builtin H rfl rfl (fun cs => bi_app hr)) ?_
      clear H a; intro a H
      refine e_op H rfl rfl (by decide) (x_assign H rfl rfl) ?_
      clear H a; intro a H
      refine e_nil (hR.out _ _ ?_)
      clear hR R
      refine hK13 _ _ ?_
      clear hK13 K13
      refine e_region (fun R hR => ?_)
      refine e_op H rfl rfl (by decide) (x_binI H rfl rfl rfl (b_add (z := ((i + 1 : Nat) : Int)) (by rw [IntKind.wrap_u8]; omega))) ?_
      clear H a; intro a H
      refine e_op H rfl rfl (by decide) (x_move H rfl rfl) ?_
      clear H a; intro a H
      refine e_nil (hR.out _ _ ?_)
      clear hR R
      rw [← hrp, ← hrl] at O2
      rw [← hrl] at H
      exact ⟨1 + t % 40 - (i + 1), by omega, i + 1, a2, c2, by omega, rfl, H.sub ⟨rfl, rfl, rfl, rfl, trivial⟩, O2, Ex2⟩
    · skip
      skip
      refine wp_seq_k (fun K16 hK16 => ?_)
      refine e_region (fun R hR => ?_)
      refine e_op H rfl rfl (by decide) (x_binI H rfl rfl rfl (b_lss (b := false) (dec_f (by omega)))) ?_
      clear H a; intro a H
      refine e_nil (hR.out _ _ ?_)
      clear hR R
      refine hK16 _ _ ?_
      clear hK16 K16
      refine wp_seq_k (fun K17 hK17 => ?_)
      refine c_false H rfl ?_
      refine wp_exit ?_
      refine t_exit ?_
      refine t_exit ?_
      refine b_hit ?_
      clear hK17 K17
      refine hK3 _ _ ?_
      clear hK3 K3
      refine wp_seq_k (fun K18 hK18 => ?_)
      refine e_region (fun R hR => ?_)
      refine e_op H rfl rfl (by decide) (x_move H rfl rfl) ?_
      clear H a; intro a H
      refine e_op H rfl rfl (by decide) (x_assign H rfl rfl) ?_
      clear H a; intro a H
      refine e_nil (hR.out _ _ ?_)
      clear hR R
      refine hK18 _ _ ?_
      clear hK18 K18
      refine wp_ret ?_
      exact ret1 H rfl rfl ⟨aa, ca, rfl, O.mono E1.sz, E1.tr Ex⟩
end Go.Proofs.Ytknllmcpogoeoaa
