/- A clock's bytes, a record's bytes and their number: walked. -/
import Derived.Test.YtknllmcpogoeoaaR8
import Derived.Test.YtknllmcpogoeoaaN2
namespace Go.Proofs.Ytknllmcpogoeoaa
open Go.RowKit
set_option linter.unusedVariables false
set_option linter.unusedSimpArgs false
set_option maxRecDepth 100000
theorem bs1 (i : Int) (w : World) : (Instr.buildSlice 22 1 #[(0, .int .u8 i)]).run Try.prog w = .ok (.slice (some ⟨w.heap.size, 0, none⟩) 1 1) (w.alloc (.cells #[.int .u8 i] 5)) := by kernel_rfl
theorem ap1 {w0 w : World} (E : Ext w0 w) {a : Option Addr} {n c : Nat} {l : List UInt8} (O : Ow w w0.heap.size a n c l) {ax : Option Addr} {m cx : Nat} {r : List UInt8} (hb : Bs w ax m r) (hx : ax = none → cx = 0) (hbd : n + m ≤ 140737488355328) :
    ∃ a' c' w', (Builtin.append_ #[22, 22] 22 #[.slice a n c, .slice ax m cx]).run Try.prog w = .ok (.slice a' (n + m) c') w' ∧ Ow w' w0.heap.size a' (n + m) c' (l ++ r) ∧ Ext w0 w' := by
  obtain ⟨a', c', w', hr, O', G⟩ := run_app w 22 w0.heap.size a n c l ax m cx r O hb hbd E.sz hx
  exact ⟨a', c', w', hr, O', E.app O (Nat.le_refl _) G⟩
theorem ow_nil (w : World) (B : Nat) : Ow w B none 0 0 [] := World.ownsRow_nil _ _ _ _
theorem wordsB_succ (xs : List Nat) (i : Nat) (h : i < xs.length) : wordsB xs (i + 1) = wordsB xs i ++ putU (xs[i]?.getD 0) := by
  unfold wordsB
  rw [List.take_add_one, List.flatMap_append, List.getElem?_eq_getElem h]
  simp
theorem wordsB_le (xs : List Nat) (i : Nat) : (wordsB xs i).length ≤ i * 11 := by
  unfold wordsB
  refine Nat.le_trans (flat_le putU 11 _ (fun x _ => putU_le x)) ?_
  rw [List.length_take]
  exact Nat.mul_le_mul_right _ (by omega)
theorem argsB_succ (zs : List Int) (i : Nat) (h : i < zs.length) : argsB (zs.take (i + 1)) = argsB (zs.take i) ++ putU (zz (zs[i]?.getD 0)) := by
  unfold argsB
  rw [List.take_add_one, List.flatMap_append, List.getElem?_eq_getElem h]
  simp
theorem argsB_le (zs : List Int) (i : Nat) : (argsB (zs.take i)).length ≤ i * 11 := by
  unfold argsB
  refine Nat.le_trans (flat_le _ 11 _ (fun x _ => putU_le _)) ?_
  rw [List.length_take]
  exact Nat.mul_le_mul_right _ (by omega)
/-- the six numbers of an event ahead of the others -/
def six (e : Evt) : List Nat := [e.a.toNat, e.kind, e.c.toNat, e.d.toNat, e.e.toNat, e.f.toNat]
def i64n (vs : List Nat) : List Value := vs.map fun (v : Nat) => Value.int .i64 (v : Int)
theorem i64n_get (vs : List Nat) (k : Nat) (h : k < vs.length) : (i64n vs).toArray[k]? = some (.int .i64 ((vs[k]?.getD 0 : Nat) : Int)) := by
  simp [i64n, List.getElem?_eq_getElem h]
theorem good_ev {x : Rcd} (hg : x.good = true) (k1 : x.what = 1) : (0 ≤ x.ev.a ∧ x.ev.a ≤ 200) ∧ (1 ≤ x.ev.kind ∧ x.ev.kind ≤ 11) ∧ (0 ≤ x.ev.c ∧ x.ev.c ≤ 8) ∧ (0 ≤ x.ev.d ∧ x.ev.d ≤ 2147483647) ∧ (0 ≤ x.ev.e ∧ x.ev.e ≤ 1) ∧ (0 ≤ x.ev.f ∧ x.ev.f ≤ 7) ∧ x.ev.args.length ≤ 4 := by
  unfold Rcd.good Rcd.good0 at hg
  rw [if_pos k1] at hg
  unfold Evt.good inN at hg
  simp only [Bool.and_eq_true, decide_eq_true_eq, beq_iff_eq] at hg
  omega
theorem good_era {x : Rcd} (hg : x.good = true) : 0 ≤ x.era ∧ x.era ≤ 8 := by
  unfold Rcd.good inN at hg
  simp only [Bool.and_eq_true, decide_eq_true_eq] at hg
  omega
theorem good_what {x : Rcd} (hg : x.good = true) : x.what = 1 ∨ x.what = 2 ∨ x.what = 3 := by
  by_cases k1 : x.what = 1
  · exact .inl k1
  by_cases k2 : x.what = 2
  · exact .inr (.inl k2)
  by_cases k3 : x.what = 3
  · exact .inr (.inr k3)
  unfold Rcd.good Rcd.good0 at hg
  rw [if_neg k1, if_neg k2, if_neg k3] at hg
  simp at hg
theorem six_lt {x : Rcd} (hg : x.good = true) (k1 : x.what = 1) (i : Nat) : (six x.ev)[i]?.getD 0 < 18446744073709551616 := by
  obtain ⟨h1, h2, h3, h4, h5, h6, h7⟩ := good_ev hg k1
  unfold six
  match i with
  | 0 => simp; omega
  | 1 => simp; omega
  | 2 => simp; omega
  | 3 => simp; omega
  | 4 => simp; omega
  | 5 => simp; omega
  | i + 6 => simp
theorem bld195 (n0 n1 n2 n3 n4 n5 : Nat) (w : World) : (Instr.build 195 #[(0, .int .i64 (n0 : Int)), (1, .int .i64 (n1 : Int)), (2, .int .i64 (n2 : Int)), (3, .int .i64 (n3 : Int)), (4, .int .i64 (n4 : Int)), (5, .int .i64 (n5 : Int))]).run Try.prog w = .ok (.agg (i64n [n0, n1, n2, n3, n4, n5]).toArray) w := by kernel_rfl
theorem z93 (w : World) : (zeroValue 93).run Try.prog w = .ok (.agg (evt0.cells (.slice none 0 0)).toArray) w := by rw [Try.zeroValue93]; rfl
theorem clkBytes_any (xs : List Nat) (hx16 : xs.length = 16) (bx : ∀ x ∈ xs, x < 18446744073709551616) (ad : Option Addr) (n c : Nat) (l : List UInt8) (w0 : World) (hb : Bs w0 ad n l) (hz : ad = none → c = 0) (hn : n ≤ 140737488350000) :
    Calls Try.prog 118 #[.agg (u64s xs).toArray, .slice ad n c] w0 (OutPost (l ++ clkB xs) w0) := by
  obtain rfl : l.length = n := hb.leng
  refine calls_has (args := [.agg (u64s xs).toArray, .slice ad l.length c]) Try.func118 rfl Try.ntmps118 (Nat.le_of_ble_eq_true rfl) (fun a H => ?_)
  simp only [argl, Nat.reduceAdd] at H
  refine wp_seq_k (fun K1 hK1 => ?_)
  refine e_region (fun R hR => ?_)
  refine e_op H rfl rfl (by decide) (x_box H rfl rfl bx_new) ?_
  clear H a; intro a H
  have T := Blk.new w0 88 (u64s xs)
  have E := (Ext.refl w0).al (.cells (u64s xs).toArray 88)
  obtain ⟨g1, hg1⟩ : ∃ g, g = w0.heap.size := ⟨_, rfl⟩
  rw [← hg1] at H T
  generalize w0.alloc (.cells (u64s xs).toArray 88) = w1 at *
  refine e_op H rfl rfl (by decide) (x_assign H rfl rfl) ?_
  clear H a; intro a H
  refine e_nil (hR.out _ _ ?_)
  clear hR R
  refine hK1 _ _ ?_
  clear hK1 K1
  refine wp_seq_k (fun K2 hK2 => ?_)
  refine e_region (fun R hR => ?_)
  refine e_op H rfl rfl (by decide) (x_load H rfl rfl (l_row T Try.underlying88 rfl (by rw [info88]; simp [u64s_len, hx16]))) ?_
  clear H a; intro a H
  refine e_callq H rfl rfl (by decide) rfl rfl (Try.call138 _) (clen_any xs hx16 _) ?_
  clear H a
  rintro e w2 ⟨rfl, E2⟩
  refine ⟨_, rfl, fun a H => ?_⟩
  have hcl := clen_le xs 16
  refine e_op H rfl rfl (by decide) (x_assign H rfl rfl) ?_
  clear H a; intro a H
  refine e_nil (hR.out _ _ ?_)
  clear hR R
  refine hK2 _ _ ?_
  clear hK2 K2
  refine wp_seq_k (fun K3 hK3 => ?_)
  refine e_region (fun R hR => ?_)
  refine e_op H rfl rfl (by decide) (x_move H rfl rfl) ?_
  clear H a; intro a H
  obtain ⟨a3, c3, w3, hr3, O3, E3⟩ := ap1 (Ext.refl w2) (ow_nil w2 w2.heap.size) ((E.tr E2).bs hb) hz (by omega)
  rw [Nat.zero_add] at hr3 O3
  rw [List.nil_append] at O3
  refine e_op H rfl rfl (by decide) (x_builtin H rfl rfl (fun cs => bi_app hr3)) ?_
  clear H a; intro a H
  refine e_op H rfl rfl (by decide) (x_move H rfl rfl) ?_
  clear H a; intro a H
  refine e_op H rfl rfl (by decide) (x_conv H rfl rfl (c_int (z := ((clen xs 16 : Nat) : Int)) Try.underlying3 Try.underlying5 (by rw [IntKind.wrap_u8]; omega))) ?_
  clear H a; intro a H
  refine e_op H rfl rfl (by decide) (x_buildSlice H rfl rfl (bs1 _ _)) ?_
  clear H a; intro a H
  obtain ⟨a5, c5, w5, hr5, O5, E5⟩ := ap1 (E3.al (.cells #[.int .u8 ((clen xs 16 : Nat) : Int)] 5)) (row_al O3 _) (Bs.new w3 #[.int .u8 ((clen xs 16 : Nat) : Int)] 1 [UInt8.ofNat (clen xs 16)] rfl (u8_one _ (by omega))) (fun h => by cases h) (by omega)
  refine e_op H rfl rfl (by decide) (x_builtin H rfl rfl (fun cs => bi_app hr5)) ?_
  clear H a; intro a H
  refine e_op H rfl rfl (by decide) (x_assign H rfl rfl) ?_
  clear H a; intro a H
  refine e_nil (hR.out _ _ ?_)
  clear hR R
  refine hK3 _ _ ?_
  clear hK3 K3
  refine wp_seq_k (fun K4 hK4 => ?_)
  refine wp_seq_k (fun K5 hK5 => ?_)
  refine e_region (fun R hR => ?_)
  refine e_op H rfl rfl (by decide) (x_move H rfl rfl) ?_
  clear H a; intro a H
  refine e_op H rfl rfl (by decide) (x_move H rfl rfl) ?_
  clear H a; intro a H
  refine e_nil (hR.out _ _ ?_)
  clear hR R
  refine hK5 _ _ ?_
  clear hK5 K5
  refine wp_block ?_
  refine wp_loop_ghost (fun n a w => ∃ i L ab cb, i ≤ clen xs 16 ∧ n = clen xs 16 - i ∧ L = l ++ (UInt8.ofNat (clen xs 16) :: wordsB xs i) ∧ Has a 28 [(2, .pointer (some ⟨g1, 0, none⟩)), (6, .slice ab L.length cb), (16, .int .i64 ((clen xs 16 : Nat) : Int)), (17, .int .i64 (i : Int))] ∧ Ow w w1.heap.size ab L.length cb L ∧ Ext w1 w) (clen xs 16) ?_ ?_
  · skip
    refine ⟨0, l ++ [UInt8.ofNat (clen xs 16)], a5, c5, by omega, by omega, by simp [wordsB], ?_, ?_, E2.tr E5⟩
    · rw [List.length_append]; exact H.sub ⟨rfl, rfl, rfl, rfl, trivial⟩
    · rw [List.length_append]; exact O5.mono E2.sz
  · skip
    clear H a O5 hr5 hr3 O3 E5 E3 E2
    intro n a w hI
    obtain ⟨i, L, ab, cb, hi, rfl, hL, H, O, E5⟩ := hI
    have hwl := wordsB_le xs i
    have hLl : L.length ≤ 140737488350001 + i * 11 := by rw [hL]; simp only [List.length_append, List.length_cons]; omega
    rcases (show (i < clen xs 16) ∨ i = clen xs 16 by omega) with hlt | rfl
    · skip
      have hx : w.cell? ⟨g1, i, none⟩ = some (.int .u64 ((xs[i]?.getD 0 : Nat) : Int)) := by rw [(T.ext E5).cell]; exact u64s_get xs i (by omega)
      have hv : xs[i]?.getD 0 < 18446744073709551616 := by rw [List.getElem?_eq_getElem (show i < xs.length by omega)]; exact bx _ (List.getElem_mem _)
      refine wp_seq_k (fun K6 hK6 => ?_)
      refine e_region (fun R hR => ?_)
      refine e_op H rfl rfl (by decide) (x_binI H rfl rfl rfl (b_lss (b := true) (dec_t (by omega)))) ?_
      clear H a; intro a H
      refine e_nil (hR.out _ _ ?_)
      clear hR R
      refine hK6 _ _ ?_
      clear hK6 K6
      refine wp_seq_k (fun K7 hK7 => ?_)
      refine c_true H rfl ?_
      refine wp_skip ?_
      refine hK7 _ _ ?_
      clear hK7 K7
      refine wp_seq_k (fun K8 hK8 => ?_)
      refine wp_block ?_
      refine wp_seq_k (fun K9 hK9 => ?_)
      refine e_region (fun R hR => ?_)
      refine e_op H rfl rfl (by decide) (x_move H rfl rfl) ?_
      clear H a; intro a H
      refine e_op H rfl rfl (by decide) (x_assign H rfl rfl) ?_
      clear H a; intro a H
      refine e_nil (hR.out _ _ ?_)
      clear hR R
      refine hK9 _ _ ?_
      clear hK9 K9
      refine e_region (fun R hR => ?_)
      refine e_op H rfl rfl (by decide) (x_move H rfl rfl) ?_
      clear H a; intro a H
      refine e_op H rfl rfl (by decide) (x_move H rfl rfl) ?_
      clear H a; intro a H
      refine e_op H rfl rfl (by decide) (x_fieldAddr H rfl rfl (fa88_0 _ _)) ?_
      clear H a; intro a H
      refine e_op H rfl rfl (by decide) (x_indexAddr H rfl rfl rfl (i_arr0 (m := i) under86 Try.sizeOf56 rfl (by omega))) ?_
      clear H a; intro a H
      refine e_op H rfl rfl (by decide) (x_load H rfl rfl (l_cell Try.isAgg56 (hx))) ?_
      clear H a; intro a H
      refine e_callq H rfl rfl (by decide) rfl rfl (Try.call46 _) (putUint_any ab L.length cb L _ w O.bs O.cap.2 hv (by omega)) ?_
      clear H a
      rintro e w6 ⟨a6, c6, rfl, O6, E6⟩
      refine ⟨_, rfl, fun a H => ?_⟩
      refine e_op H rfl rfl (by decide) (x_assign H rfl rfl) ?_
      clear H a; intro a H
      refine e_nil (hR.out _ _ ?_)
      clear hR R
      refine hK8 _ _ ?_
      clear hK8 K8
      refine e_region (fun R hR => ?_)
      refine e_op H rfl rfl (by decide) (x_binI H rfl rfl rfl (b_add (z := ((i + 1 : Nat) : Int)) (by rw [IntKind.wrap_i64]; omega))) ?_
      clear H a; intro a H
      refine e_op H rfl rfl (by decide) (x_move H rfl rfl) ?_
      clear H a; intro a H
      refine e_nil (hR.out _ _ ?_)
      clear hR R
      refine ⟨clen xs 16 - (i + 1), by omega, i + 1, _, a6, c6, by omega, rfl, ?_, H.sub ⟨rfl, rfl, rfl, rfl, trivial⟩, O6.mono E5.sz, E5.tr E6⟩
      rw [hL, wordsB_succ xs i (by omega)]; simp
    · skip
      skip
      refine wp_seq_k (fun K10 hK10 => ?_)
      refine e_region (fun R hR => ?_)
      refine e_op H rfl rfl (by decide) (x_binI H rfl rfl rfl (b_lss (b := false) (dec_f (by omega)))) ?_
      clear H a; intro a H
      refine e_nil (hR.out _ _ ?_)
      clear hR R
      refine hK10 _ _ ?_
      clear hK10 K10
      refine wp_seq_k (fun K11 hK11 => ?_)
      refine c_false H rfl ?_
      refine wp_exit ?_
      refine t_exit ?_
      refine t_exit ?_
      refine b_hit ?_
      clear hK11 K11
      refine hK4 _ _ ?_
      clear hK4 K4
      refine wp_seq_k (fun K12 hK12 => ?_)
      refine e_region (fun R hR => ?_)
      refine e_op H rfl rfl (by decide) (x_move H rfl rfl) ?_
      clear H a; intro a H
      refine e_op H rfl rfl (by decide) (x_assign H rfl rfl) ?_
      clear H a; intro a H
      refine e_nil (hR.out _ _ ?_)
      clear hR R
      refine hK12 _ _ ?_
      clear hK12 K12
      refine wp_ret ?_
      have hL2 : L = l ++ clkB xs := hL
      subst hL2
      exact ret1 H rfl rfl ⟨ab, cb, rfl, O.mono E.sz, E.tr E5⟩
theorem bytesF (x : Rcd) (ua : Option Addr) (un uc : Nat) (w0 : World) (hx : x.ok) (hu : Zl w0 (.slice ua un uc) x.ev.args) (hg : x.good = false) : Calls Try.prog 70 #[.agg (x.cells (.slice ua un uc)).toArray] w0 (OutPost x.bytes w0) := by
  refine calls_has (args := [.agg (x.cells (.slice ua un uc)).toArray]) Try.func70 rfl Try.ntmps70 (Nat.le_of_ble_eq_true rfl) (fun a H => ?_)
  simp only [argl, Nat.reduceAdd] at H
  refine wp_seq_k (fun K1 hK1 => ?_)
  refine e_region (fun R hR => ?_)
  refine e_op H rfl rfl (by decide) (x_box H rfl rfl bx_new) ?_
  clear H a; intro a H
  have T1 := Blk.new w0 95 (x.cells (.slice ua un uc))
  have E1 := (Ext.refl w0).al (.cells (x.cells (.slice ua un uc)).toArray 95)
  obtain ⟨g1, hg1⟩ : ∃ g, g = w0.heap.size := ⟨_, rfl⟩
  rw [← hg1] at H T1
  generalize w0.alloc (.cells (x.cells (.slice ua un uc)).toArray 95) = w1 at *
  refine e_op H rfl rfl (by decide) (x_assign H rfl rfl) ?_
  clear H a; intro a H
  refine e_nil (hR.out _ _ ?_)
  clear hR R
  refine hK1 _ _ ?_
  clear hK1 K1
  refine wp_seq_k (fun K2 hK2 => ?_)
  refine wp_seq_k (fun K3 hK3 => ?_)
  refine e_region (fun R hR => ?_)
  refine e_op H rfl rfl (by decide) (x_load H rfl rfl (ld_rec T1 hx.words)) ?_
  clear H a; intro a H
  refine e_callq H rfl rfl (by decide) rfl rfl (Try.call90 _) (check_any x (.slice ua un uc) w1 hx (hu.ext E1)) ?_
  clear H a
  rintro e w2 ⟨rfl, F2⟩
  refine ⟨_, rfl, fun a H => ?_⟩
  rw [hg] at H
  have E2 := E1.tr F2
  have T2 := T1.ext F2
  refine e_op H rfl rfl (by decide) (x_binI H rfl rfl rfl (b_neq rfl)) ?_
  clear H a; intro a H
  refine e_nil (hR.out _ _ ?_)
  clear hR R
  refine hK3 _ _ ?_
  clear hK3 K3
  refine c_true H rfl ?_
  refine wp_seq_k (fun K4 hK4 => ?_)
  refine e_region (fun R hR => ?_)
  refine e_op H rfl rfl (by decide) (x_assign H rfl rfl) ?_
  clear H a; intro a H
  refine e_nil (hR.out _ _ ?_)
  clear hR R
  refine hK4 _ _ ?_
  clear hK4 K4
  refine wp_ret ?_
  refine t_ret ?_
  exact ret1 H rfl rfl ⟨none, 0, by unfold Rcd.bytes; rw [hg]; rfl, by unfold Rcd.bytes; rw [hg]; exact ow_nil _ _, E2⟩
theorem bytes3 (x : Rcd) (ua : Option Addr) (un uc : Nat) (w0 : World) (hx : x.ok) (hu : Zl w0 (.slice ua un uc) x.ev.args) (hg : x.good = true) (h3n : x.what = 3) : Calls Try.prog 70 #[.agg (x.cells (.slice ua un uc)).toArray] w0 (OutPost x.bytes w0) := by
  have hera := good_era hg
  have hwh := hx.what
  have h1 : (((x.what : Nat) : Int) == 1) = false := by simp; omega
  have h2 : (((x.what : Nat) : Int) == 2) = false := by simp; omega
  have p1 := putU_le x.era.toNat
  have p2 := putU_le x.idx
  refine calls_has (args := [.agg (x.cells (.slice ua un uc)).toArray]) Try.func70 rfl Try.ntmps70 (Nat.le_of_ble_eq_true rfl) (fun a H => ?_)
  simp only [argl, Nat.reduceAdd] at H
  refine wp_seq_k (fun K1 hK1 => ?_)
  refine e_region (fun R hR => ?_)
  refine e_op H rfl rfl (by decide) (x_box H rfl rfl bx_new) ?_
  clear H a; intro a H
  have T1 := Blk.new w0 95 (x.cells (.slice ua un uc))
  have E1 := (Ext.refl w0).al (.cells (x.cells (.slice ua un uc)).toArray 95)
  obtain ⟨g1, hg1⟩ : ∃ g, g = w0.heap.size := ⟨_, rfl⟩
  rw [← hg1] at H T1
  generalize w0.alloc (.cells (x.cells (.slice ua un uc)).toArray 95) = w1 at *
  refine e_op H rfl rfl (by decide) (x_assign H rfl rfl) ?_
  clear H a; intro a H
  refine e_nil (hR.out _ _ ?_)
  clear hR R
  refine hK1 _ _ ?_
  clear hK1 K1
  refine wp_seq_k (fun K2 hK2 => ?_)
  refine wp_seq_k (fun K3 hK3 => ?_)
  refine e_region (fun R hR => ?_)
  refine e_op H rfl rfl (by decide) (x_load H rfl rfl (ld_rec T1 hx.words)) ?_
  clear H a; intro a H
  refine e_callq H rfl rfl (by decide) rfl rfl (Try.call90 _) (check_any x (.slice ua un uc) w1 hx (hu.ext E1)) ?_
  clear H a
  rintro e w2 ⟨rfl, F2⟩
  refine ⟨_, rfl, fun a H => ?_⟩
  rw [hg] at H
  have E2 := E1.tr F2
  have T2 := T1.ext F2
  refine e_op H rfl rfl (by decide) (x_binI H rfl rfl rfl (b_neq rfl)) ?_
  clear H a; intro a H
  refine e_nil (hR.out _ _ ?_)
  clear hR R
  refine hK3 _ _ ?_
  clear hK3 K3
  refine c_false H rfl ?_
  refine wp_skip ?_
  refine hK2 _ _ ?_
  clear hK2 K2
  refine wp_seq_k (fun K4 hK4 => ?_)
  refine e_region (fun R hR => ?_)
  refine e_op H rfl rfl (by decide) (x_fieldAddr H rfl rfl (fa95_3 _ _)) ?_
  clear H a; intro a H
  refine e_op H rfl rfl (by decide) (x_load H rfl rfl (l_cell Try.isAgg89 (T2.at_ (rc_what hx.words)))) ?_
  clear H a; intro a H
  refine e_op H rfl rfl (by decide) (x_buildSlice H rfl rfl (bs1 _ _)) ?_
  clear H a; intro a H
  have O3 : Ow (w2.alloc (.cells #[.int .u8 (x.what : Int)] 5)) w2.heap.size (some ⟨w2.heap.size, 0, none⟩) 1 1 [UInt8.ofNat x.what] := Ow.new w2 _ w2.heap.size 1 _ rfl (u8_one _ (by omega)) (Nat.le_refl _) (by omega)
  have E3 := E2.al (.cells #[.int .u8 (x.what : Int)] 5)
  have T3 := T2.alloc (.cells #[.int .u8 (x.what : Int)] 5)
  generalize w2.alloc (.cells #[.int .u8 (x.what : Int)] 5) = w3 at *
  refine e_op H rfl rfl (by decide) (x_assign H rfl rfl) ?_
  clear H a; intro a H
  refine e_nil (hR.out _ _ ?_)
  clear hR R
  refine hK4 _ _ ?_
  clear hK4 K4
  refine wp_seq_k (fun K5 hK5 => ?_)
  refine e_region (fun R hR => ?_)
  refine e_op H rfl rfl (by decide) (x_move H rfl rfl) ?_
  clear H a; intro a H
  refine e_op H rfl rfl (by decide) (x_fieldAddr H rfl rfl (fa95_0 _ _)) ?_
  clear H a; intro a H
  refine e_op H rfl rfl (by decide) (x_load H rfl rfl (l_cell Try.isAgg3 (T3.at_ (i := 0) rfl))) ?_
  clear H a; intro a H
  refine e_op H rfl rfl (by decide) (x_conv H rfl rfl (c_int (z := ((x.era.toNat : Nat) : Int)) Try.underlying3 Try.underlying56 (by rw [IntKind.wrap_u64]; omega))) ?_
  clear H a; intro a H
  refine e_callq H rfl rfl (by decide) rfl rfl (Try.call46 _) (putUint_any _ _ _ ([UInt8.ofNat x.what]) x.era.toNat w3 O3.bs O3.cap.2 (by omega) (by first | omega | (simp only [List.length_append, List.length_cons, List.length_nil]; omega))) ?_
  clear H a
  rintro e w4 ⟨a4, c4, rfl, O4, F4⟩
  refine ⟨_, rfl, fun a H => ?_⟩
  have E4 := E3.tr F4
  have T4 := T3.ext F4
  refine e_op H rfl rfl (by decide) (x_assign H rfl rfl) ?_
  clear H a; intro a H
  refine e_nil (hR.out _ _ ?_)
  clear hR R
  refine hK5 _ _ ?_
  clear hK5 K5
  refine wp_seq_k (fun K6 hK6 => ?_)
  refine e_region (fun R hR => ?_)
  refine e_op H rfl rfl (by decide) (x_move H rfl rfl) ?_
  clear H a; intro a H
  refine e_op H rfl rfl (by decide) (x_fieldAddr H rfl rfl (fa95_1 _ _)) ?_
  clear H a; intro a H
  refine e_op H rfl rfl (by decide) (x_load H rfl rfl (l_cell Try.isAgg56 (T4.at_ (i := 1) rfl))) ?_
  clear H a; intro a H
  refine e_callq H rfl rfl (by decide) rfl rfl (Try.call46 _) (putUint_any _ _ _ ([UInt8.ofNat x.what] ++ putU x.era.toNat) x.idx w4 O4.bs O4.cap.2 (hx.idx) (by first | omega | (simp only [List.length_append, List.length_cons, List.length_nil]; omega))) ?_
  clear H a
  rintro e w5 ⟨a5, c5, rfl, O5, F5⟩
  refine ⟨_, rfl, fun a H => ?_⟩
  have E5 := E4.tr F5
  have T5 := T4.ext F5
  refine e_op H rfl rfl (by decide) (x_assign H rfl rfl) ?_
  clear H a; intro a H
  refine e_nil (hR.out _ _ ?_)
  clear hR R
  refine hK6 _ _ ?_
  clear hK6 K6
  refine wp_seq_k (fun K7 hK7 => ?_)
  refine wp_seq_k (fun K8 hK8 => ?_)
  refine e_region (fun R hR => ?_)
  refine e_op H rfl rfl (by decide) (x_fieldAddr H rfl rfl (fa95_3 _ _)) ?_
  clear H a; intro a H
  refine e_op H rfl rfl (by decide) (x_load H rfl rfl (l_cell Try.isAgg89 (T5.at_ (rc_what hx.words)))) ?_
  clear H a; intro a H
  refine e_nil (hR.out _ _ ?_)
  clear hR R
  refine hK8 _ _ ?_
  clear hK8 K8
  refine wp_block ?_
  refine wp_seq_k (fun K9 hK9 => ?_)
  refine e_region (fun R hR => ?_)
  refine e_op H rfl rfl (by decide) (x_binI H rfl rfl rfl (b_eql (b := false) (h1))) ?_
  clear H a; intro a H
  refine e_op H rfl rfl (by decide) (x_assign H rfl rfl) ?_
  clear H a; intro a H
  refine e_nil (hR.out _ _ ?_)
  clear hR R
  refine hK9 _ _ ?_
  clear hK9 K9
  refine c_false H rfl ?_
  refine wp_seq_k (fun K10 hK10 => ?_)
  refine e_region (fun R hR => ?_)
  refine e_op H rfl rfl (by decide) (x_binI H rfl rfl rfl (b_eql (b := false) (h2))) ?_
  clear H a; intro a H
  refine e_op H rfl rfl (by decide) (x_assign H rfl rfl) ?_
  clear H a; intro a H
  refine e_nil (hR.out _ _ ?_)
  clear hR R
  refine hK10 _ _ ?_
  clear hK10 K10
  refine c_false H rfl ?_
  refine wp_skip ?_
  refine hK7 _ _ ?_
  clear hK7 K7
  refine wp_seq_k (fun K11 hK11 => ?_)
  refine e_region (fun R hR => ?_)
  refine e_op H rfl rfl (by decide) (x_move H rfl rfl) ?_
  clear H a; intro a H
  refine e_op H rfl rfl (by decide) (x_assign H rfl rfl) ?_
  clear H a; intro a H
  refine e_nil (hR.out _ _ ?_)
  clear hR R
  refine hK11 _ _ ?_
  clear hK11 K11
  refine wp_ret ?_
  have hL : x.bytes = ([UInt8.ofNat x.what] ++ putU x.era.toNat) ++ putU x.idx := by unfold Rcd.bytes Rcd.bytes0; rw [if_pos hg, if_neg (by omega), if_neg (by omega)]; simp [List.append_assoc]
  rw [hL]
  exact ret1 H rfl rfl ⟨_, _, rfl, O5.mono E4.sz, E5⟩
theorem bytes2 (x : Rcd) (ua : Option Addr) (un uc : Nat) (w0 : World) (hx : x.ok) (hu : Zl w0 (.slice ua un uc) x.ev.args) (hg : x.good = true) (h2n : x.what = 2) : Calls Try.prog 70 #[.agg (x.cells (.slice ua un uc)).toArray] w0 (OutPost x.bytes w0) := by
  have hera := good_era hg
  have hwh := hx.what
  have h1 : (((x.what : Nat) : Int) == 1) = false := by simp; omega
  have h2 : (((x.what : Nat) : Int) == 2) = true := by simp; omega
  have p1 := putU_le x.era.toNat
  have p2 := putU_le x.idx
  refine calls_has (args := [.agg (x.cells (.slice ua un uc)).toArray]) Try.func70 rfl Try.ntmps70 (Nat.le_of_ble_eq_true rfl) (fun a H => ?_)
  simp only [argl, Nat.reduceAdd] at H
  refine wp_seq_k (fun K1 hK1 => ?_)
  refine e_region (fun R hR => ?_)
  refine e_op H rfl rfl (by decide) (x_box H rfl rfl bx_new) ?_
  clear H a; intro a H
  have T1 := Blk.new w0 95 (x.cells (.slice ua un uc))
  have E1 := (Ext.refl w0).al (.cells (x.cells (.slice ua un uc)).toArray 95)
  obtain ⟨g1, hg1⟩ : ∃ g, g = w0.heap.size := ⟨_, rfl⟩
  rw [← hg1] at H T1
  generalize w0.alloc (.cells (x.cells (.slice ua un uc)).toArray 95) = w1 at *
  refine e_op H rfl rfl (by decide) (x_assign H rfl rfl) ?_
  clear H a; intro a H
  refine e_nil (hR.out _ _ ?_)
  clear hR R
  refine hK1 _ _ ?_
  clear hK1 K1
  refine wp_seq_k (fun K2 hK2 => ?_)
  refine wp_seq_k (fun K3 hK3 => ?_)
  refine e_region (fun R hR => ?_)
  refine e_op H rfl rfl (by decide) (x_load H rfl rfl (ld_rec T1 hx.words)) ?_
  clear H a; intro a H
  refine e_callq H rfl rfl (by decide) rfl rfl (Try.call90 _) (check_any x (.slice ua un uc) w1 hx (hu.ext E1)) ?_
  clear H a
  rintro e w2 ⟨rfl, F2⟩
  refine ⟨_, rfl, fun a H => ?_⟩
  rw [hg] at H
  have E2 := E1.tr F2
  have T2 := T1.ext F2
  refine e_op H rfl rfl (by decide) (x_binI H rfl rfl rfl (b_neq rfl)) ?_
  clear H a; intro a H
  refine e_nil (hR.out _ _ ?_)
  clear hR R
  refine hK3 _ _ ?_
  clear hK3 K3
  refine c_false H rfl ?_
  refine wp_skip ?_
  refine hK2 _ _ ?_
  clear hK2 K2
  refine wp_seq_k (fun K4 hK4 => ?_)
  refine e_region (fun R hR => ?_)
  refine e_op H rfl rfl (by decide) (x_fieldAddr H rfl rfl (fa95_3 _ _)) ?_
  clear H a; intro a H
  refine e_op H rfl rfl (by decide) (x_load H rfl rfl (l_cell Try.isAgg89 (T2.at_ (rc_what hx.words)))) ?_
  clear H a; intro a H
  refine e_op H rfl rfl (by decide) (x_buildSlice H rfl rfl (bs1 _ _)) ?_
  clear H a; intro a H
  have O3 : Ow (w2.alloc (.cells #[.int .u8 (x.what : Int)] 5)) w2.heap.size (some ⟨w2.heap.size, 0, none⟩) 1 1 [UInt8.ofNat x.what] := Ow.new w2 _ w2.heap.size 1 _ rfl (u8_one _ (by omega)) (Nat.le_refl _) (by omega)
  have E3 := E2.al (.cells #[.int .u8 (x.what : Int)] 5)
  have T3 := T2.alloc (.cells #[.int .u8 (x.what : Int)] 5)
  generalize w2.alloc (.cells #[.int .u8 (x.what : Int)] 5) = w3 at *
  refine e_op H rfl rfl (by decide) (x_assign H rfl rfl) ?_
  clear H a; intro a H
  refine e_nil (hR.out _ _ ?_)
  clear hR R
  refine hK4 _ _ ?_
  clear hK4 K4
  refine wp_seq_k (fun K5 hK5 => ?_)
  refine e_region (fun R hR => ?_)
  refine e_op H rfl rfl (by decide) (x_move H rfl rfl) ?_
  clear H a; intro a H
  refine e_op H rfl rfl (by decide) (x_fieldAddr H rfl rfl (fa95_0 _ _)) ?_
  clear H a; intro a H
  refine e_op H rfl rfl (by decide) (x_load H rfl rfl (l_cell Try.isAgg3 (T3.at_ (i := 0) rfl))) ?_
  clear H a; intro a H
  refine e_op H rfl rfl (by decide) (x_conv H rfl rfl (c_int (z := ((x.era.toNat : Nat) : Int)) Try.underlying3 Try.underlying56 (by rw [IntKind.wrap_u64]; omega))) ?_
  clear H a; intro a H
  refine e_callq H rfl rfl (by decide) rfl rfl (Try.call46 _) (putUint_any _ _ _ ([UInt8.ofNat x.what]) x.era.toNat w3 O3.bs O3.cap.2 (by omega) (by first | omega | (simp only [List.length_append, List.length_cons, List.length_nil]; omega))) ?_
  clear H a
  rintro e w4 ⟨a4, c4, rfl, O4, F4⟩
  refine ⟨_, rfl, fun a H => ?_⟩
  have E4 := E3.tr F4
  have T4 := T3.ext F4
  refine e_op H rfl rfl (by decide) (x_assign H rfl rfl) ?_
  clear H a; intro a H
  refine e_nil (hR.out _ _ ?_)
  clear hR R
  refine hK5 _ _ ?_
  clear hK5 K5
  refine wp_seq_k (fun K6 hK6 => ?_)
  refine e_region (fun R hR => ?_)
  refine e_op H rfl rfl (by decide) (x_move H rfl rfl) ?_
  clear H a; intro a H
  refine e_op H rfl rfl (by decide) (x_fieldAddr H rfl rfl (fa95_1 _ _)) ?_
  clear H a; intro a H
  refine e_op H rfl rfl (by decide) (x_load H rfl rfl (l_cell Try.isAgg56 (T4.at_ (i := 1) rfl))) ?_
  clear H a; intro a H
  refine e_callq H rfl rfl (by decide) rfl rfl (Try.call46 _) (putUint_any _ _ _ ([UInt8.ofNat x.what] ++ putU x.era.toNat) x.idx w4 O4.bs O4.cap.2 (hx.idx) (by first | omega | (simp only [List.length_append, List.length_cons, List.length_nil]; omega))) ?_
  clear H a
  rintro e w5 ⟨a5, c5, rfl, O5, F5⟩
  refine ⟨_, rfl, fun a H => ?_⟩
  have E5 := E4.tr F5
  have T5 := T4.ext F5
  refine e_op H rfl rfl (by decide) (x_assign H rfl rfl) ?_
  clear H a; intro a H
  refine e_nil (hR.out _ _ ?_)
  clear hR R
  refine hK6 _ _ ?_
  clear hK6 K6
  refine wp_seq_k (fun K7 hK7 => ?_)
  refine wp_seq_k (fun K8 hK8 => ?_)
  refine e_region (fun R hR => ?_)
  refine e_op H rfl rfl (by decide) (x_fieldAddr H rfl rfl (fa95_3 _ _)) ?_
  clear H a; intro a H
  refine e_op H rfl rfl (by decide) (x_load H rfl rfl (l_cell Try.isAgg89 (T5.at_ (rc_what hx.words)))) ?_
  clear H a; intro a H
  refine e_nil (hR.out _ _ ?_)
  clear hR R
  refine hK8 _ _ ?_
  clear hK8 K8
  refine wp_block ?_
  refine wp_seq_k (fun K9 hK9 => ?_)
  refine e_region (fun R hR => ?_)
  refine e_op H rfl rfl (by decide) (x_binI H rfl rfl rfl (b_eql (b := false) (h1))) ?_
  clear H a; intro a H
  refine e_op H rfl rfl (by decide) (x_assign H rfl rfl) ?_
  clear H a; intro a H
  refine e_nil (hR.out _ _ ?_)
  clear hR R
  refine hK9 _ _ ?_
  clear hK9 K9
  refine c_false H rfl ?_
  refine wp_seq_k (fun K10 hK10 => ?_)
  refine e_region (fun R hR => ?_)
  refine e_op H rfl rfl (by decide) (x_binI H rfl rfl rfl (b_eql (b := true) (h2))) ?_
  clear H a; intro a H
  refine e_op H rfl rfl (by decide) (x_assign H rfl rfl) ?_
  clear H a; intro a H
  refine e_nil (hR.out _ _ ?_)
  clear hR R
  refine hK10 _ _ ?_
  clear hK10 K10
  refine c_true H rfl ?_
  refine e_region (fun R hR => ?_)
  refine e_op H rfl rfl (by decide) (x_move H rfl rfl) ?_
  clear H a; intro a H
  refine e_op H rfl rfl (by decide) (x_fieldAddr H rfl rfl (fa95_5 _ _)) ?_
  clear H a; intro a H
  refine e_op H rfl rfl (by decide) (x_load H rfl rfl (l_cell Try.isAgg56 (T5.at_ (rc_lost hx.words)))) ?_
  clear H a; intro a H
  refine e_callq H rfl rfl (by decide) rfl rfl (Try.call46 _) (putUint_any _ _ _ (([UInt8.ofNat x.what] ++ putU x.era.toNat) ++ putU x.idx) x.lost w5 O5.bs O5.cap.2 (hx.lost) (by first | omega | (simp only [List.length_append, List.length_cons, List.length_nil]; omega))) ?_
  clear H a
  rintro e w6 ⟨a6, c6, rfl, O6, F6⟩
  refine ⟨_, rfl, fun a H => ?_⟩
  have E6 := E5.tr F6
  have T6 := T5.ext F6
  refine e_op H rfl rfl (by decide) (x_assign H rfl rfl) ?_
  clear H a; intro a H
  refine e_nil (hR.out _ _ ?_)
  clear hR R
  refine hK7 _ _ ?_
  clear hK7 K7
  refine wp_seq_k (fun K11 hK11 => ?_)
  refine e_region (fun R hR => ?_)
  refine e_op H rfl rfl (by decide) (x_move H rfl rfl) ?_
  clear H a; intro a H
  refine e_op H rfl rfl (by decide) (x_assign H rfl rfl) ?_
  clear H a; intro a H
  refine e_nil (hR.out _ _ ?_)
  clear hR R
  refine hK11 _ _ ?_
  clear hK11 K11
  refine wp_ret ?_
  have hL : x.bytes = (([UInt8.ofNat x.what] ++ putU x.era.toNat) ++ putU x.idx) ++ putU x.lost := by unfold Rcd.bytes Rcd.bytes0; rw [if_pos hg, if_neg (by omega), if_pos h2n]; simp [List.append_assoc]
  rw [hL]
  exact ret1 H rfl rfl ⟨_, _, rfl, O6.mono E5.sz, E6⟩
theorem bytes1 (x : Rcd) (ua : Option Addr) (uc : Nat) (w0 : World) (hx : x.ok) (hu : Zl w0 (.slice ua x.ev.args.length uc) x.ev.args) (hzs : Zs w0 .i64 ua x.ev.args.length x.ev.args) (hg : x.good = true) (k1 : x.what = 1) : Calls Try.prog 70 #[.agg (x.cells (.slice ua x.ev.args.length uc)).toArray] w0 (OutPost x.bytes w0) := by
  have hera := good_era hg
  have hwh := hx.what
  have h1 : (((x.what : Nat) : Int) == 1) = true := by simp; omega
  have p1 := putU_le x.era.toNat
  have p2 := putU_le x.idx
  have pw := wordsB_le x.words (clen x.words 16)
  have pc := clen_le x.words 16
  obtain ⟨q1, q2, q3, q4, q5, q6, q7⟩ := good_ev hg k1
  refine calls_has (args := [.agg (x.cells (.slice ua x.ev.args.length uc)).toArray]) Try.func70 rfl Try.ntmps70 (Nat.le_of_ble_eq_true rfl) (fun a H => ?_)
  simp only [argl, Nat.reduceAdd] at H
  refine wp_seq_k (fun K1 hK1 => ?_)
  refine e_region (fun R hR => ?_)
  refine e_op H rfl rfl (by decide) (x_box H rfl rfl bx_new) ?_
  clear H a; intro a H
  have T1 := Blk.new w0 95 (x.cells (.slice ua x.ev.args.length uc))
  have E1 := (Ext.refl w0).al (.cells (x.cells (.slice ua x.ev.args.length uc)).toArray 95)
  obtain ⟨g1, hg1⟩ : ∃ g, g = w0.heap.size := ⟨_, rfl⟩
  rw [← hg1] at H T1
  generalize w0.alloc (.cells (x.cells (.slice ua x.ev.args.length uc)).toArray 95) = w1 at *
  refine e_op H rfl rfl (by decide) (x_assign H rfl rfl) ?_
  clear H a; intro a H
  refine e_nil (hR.out _ _ ?_)
  clear hR R
  refine hK1 _ _ ?_
  clear hK1 K1
  refine wp_seq_k (fun K2 hK2 => ?_)
  refine wp_seq_k (fun K3 hK3 => ?_)
  refine e_region (fun R hR => ?_)
  refine e_op H rfl rfl (by decide) (x_load H rfl rfl (ld_rec T1 hx.words)) ?_
  clear H a; intro a H
  refine e_callq H rfl rfl (by decide) rfl rfl (Try.call90 _) (check_any x (.slice ua x.ev.args.length uc) w1 hx (hu.ext E1)) ?_
  clear H a
  rintro e w2 ⟨rfl, F2⟩
  refine ⟨_, rfl, fun a H => ?_⟩
  rw [hg] at H
  have E2 := E1.tr F2
  have T2 := T1.ext F2
  refine e_op H rfl rfl (by decide) (x_binI H rfl rfl rfl (b_neq rfl)) ?_
  clear H a; intro a H
  refine e_nil (hR.out _ _ ?_)
  clear hR R
  refine hK3 _ _ ?_
  clear hK3 K3
  refine c_false H rfl ?_
  refine wp_skip ?_
  refine hK2 _ _ ?_
  clear hK2 K2
  refine wp_seq_k (fun K4 hK4 => ?_)
  refine e_region (fun R hR => ?_)
  refine e_op H rfl rfl (by decide) (x_fieldAddr H rfl rfl (fa95_3 _ _)) ?_
  clear H a; intro a H
  refine e_op H rfl rfl (by decide) (x_load H rfl rfl (l_cell Try.isAgg89 (T2.at_ (rc_what hx.words)))) ?_
  clear H a; intro a H
  refine e_op H rfl rfl (by decide) (x_buildSlice H rfl rfl (bs1 _ _)) ?_
  clear H a; intro a H
  have O3 : Ow (w2.alloc (.cells #[.int .u8 (x.what : Int)] 5)) w2.heap.size (some ⟨w2.heap.size, 0, none⟩) 1 1 [UInt8.ofNat x.what] := Ow.new w2 _ w2.heap.size 1 _ rfl (u8_one _ (by omega)) (Nat.le_refl _) (by omega)
  have E3 := E2.al (.cells #[.int .u8 (x.what : Int)] 5)
  have T3 := T2.alloc (.cells #[.int .u8 (x.what : Int)] 5)
  generalize w2.alloc (.cells #[.int .u8 (x.what : Int)] 5) = w3 at *
  refine e_op H rfl rfl (by decide) (x_assign H rfl rfl) ?_
  clear H a; intro a H
  refine e_nil (hR.out _ _ ?_)
  clear hR R
  refine hK4 _ _ ?_
  clear hK4 K4
  refine wp_seq_k (fun K5 hK5 => ?_)
  refine e_region (fun R hR => ?_)
  refine e_op H rfl rfl (by decide) (x_move H rfl rfl) ?_
  clear H a; intro a H
  refine e_op H rfl rfl (by decide) (x_fieldAddr H rfl rfl (fa95_0 _ _)) ?_
  clear H a; intro a H
  refine e_op H rfl rfl (by decide) (x_load H rfl rfl (l_cell Try.isAgg3 (T3.at_ (i := 0) rfl))) ?_
  clear H a; intro a H
  refine e_op H rfl rfl (by decide) (x_conv H rfl rfl (c_int (z := ((x.era.toNat : Nat) : Int)) Try.underlying3 Try.underlying56 (by rw [IntKind.wrap_u64]; omega))) ?_
  clear H a; intro a H
  refine e_callq H rfl rfl (by decide) rfl rfl (Try.call46 _) (putUint_any _ _ _ ([UInt8.ofNat x.what]) x.era.toNat w3 O3.bs O3.cap.2 (by omega) (by first | omega | (simp only [List.length_append, List.length_cons, List.length_nil]; omega))) ?_
  clear H a
  rintro e w4 ⟨a4, c4, rfl, O4, F4⟩
  refine ⟨_, rfl, fun a H => ?_⟩
  have E4 := E3.tr F4
  have T4 := T3.ext F4
  refine e_op H rfl rfl (by decide) (x_assign H rfl rfl) ?_
  clear H a; intro a H
  refine e_nil (hR.out _ _ ?_)
  clear hR R
  refine hK5 _ _ ?_
  clear hK5 K5
  refine wp_seq_k (fun K6 hK6 => ?_)
  refine e_region (fun R hR => ?_)
  refine e_op H rfl rfl (by decide) (x_move H rfl rfl) ?_
  clear H a; intro a H
  refine e_op H rfl rfl (by decide) (x_fieldAddr H rfl rfl (fa95_1 _ _)) ?_
  clear H a; intro a H
  refine e_op H rfl rfl (by decide) (x_load H rfl rfl (l_cell Try.isAgg56 (T4.at_ (i := 1) rfl))) ?_
  clear H a; intro a H
  refine e_callq H rfl rfl (by decide) rfl rfl (Try.call46 _) (putUint_any _ _ _ ([UInt8.ofNat x.what] ++ putU x.era.toNat) x.idx w4 O4.bs O4.cap.2 (hx.idx) (by first | omega | (simp only [List.length_append, List.length_cons, List.length_nil]; omega))) ?_
  clear H a
  rintro e w5 ⟨a5, c5, rfl, O5, F5⟩
  refine ⟨_, rfl, fun a H => ?_⟩
  have E5 := E4.tr F5
  have T5 := T4.ext F5
  refine e_op H rfl rfl (by decide) (x_assign H rfl rfl) ?_
  clear H a; intro a H
  refine e_nil (hR.out _ _ ?_)
  clear hR R
  refine hK6 _ _ ?_
  clear hK6 K6
  refine wp_seq_k (fun K7 hK7 => ?_)
  refine wp_seq_k (fun K8 hK8 => ?_)
  refine e_region (fun R hR => ?_)
  refine e_op H rfl rfl (by decide) (x_fieldAddr H rfl rfl (fa95_3 _ _)) ?_
  clear H a; intro a H
  refine e_op H rfl rfl (by decide) (x_load H rfl rfl (l_cell Try.isAgg89 (T5.at_ (rc_what hx.words)))) ?_
  clear H a; intro a H
  refine e_nil (hR.out _ _ ?_)
  clear hR R
  refine hK8 _ _ ?_
  clear hK8 K8
  refine wp_block ?_
  refine wp_seq_k (fun K9 hK9 => ?_)
  refine e_region (fun R hR => ?_)
  refine e_op H rfl rfl (by decide) (x_binI H rfl rfl rfl (b_eql (b := true) (h1))) ?_
  clear H a; intro a H
  refine e_op H rfl rfl (by decide) (x_assign H rfl rfl) ?_
  clear H a; intro a H
  refine e_nil (hR.out _ _ ?_)
  clear hR R
  refine hK9 _ _ ?_
  clear hK9 K9
  refine c_true H rfl ?_
  refine wp_seq_k (fun K10 hK10 => ?_)
  refine e_region (fun R hR => ?_)
  refine e_op H rfl rfl (by decide) (x_fieldAddr H rfl rfl (fa95_4 _ _)) ?_
  clear H a; intro a H
  refine e_op H rfl rfl (by decide) (x_load H rfl rfl (ld_ev T5 hx.words)) ?_
  clear H a; intro a H
  refine e_op H rfl rfl (by decide) (x_alloc H rfl (al_new (z93 _))) ?_
  clear H a; intro a H
  have D0 := Blk.new w5 93 (evt0.cells (.slice none 0 0))
  have E50 := E5.al (.cells (evt0.cells (.slice none 0 0)).toArray 93)
  have T50 := T5.alloc (.cells (evt0.cells (.slice none 0 0)).toArray 93)
  have O50 : Ow _ w4.heap.size a5 _ c5 _ := row_al O5 (.cells (evt0.cells (.slice none 0 0)).toArray 93)
  obtain ⟨g2, hg2⟩ : ∃ g, g = w5.heap.size := ⟨_, rfl⟩
  have hgl : w0.heap.size ≤ g2 := by have := E5.sz; omega
  have hg12 : g1 ≠ g2 := by have := T5.lt; omega
  have ha5 : ∀ b off, a5 = some ⟨b, off, none⟩ → b ≠ g2 := fun b off e => by have := O5.lt e; omega
  rw [← hg2] at H D0
  have hF : Ext w5 (w5.alloc (.cells (evt0.cells (.slice none 0 0)).toArray 93)) := (Ext.refl w5).al _
  generalize w5.alloc (.cells (evt0.cells (.slice none 0 0)).toArray 93) = w50 at *
  refine e_st H rfl rfl (x_store H rfl rfl rfl (st_row D0 (by kernel_rfl) (by rfl) (by simp [Value.oneCell', Evt.cells]))) ?_
  have D6 := D0.row (x.ev.cells (.slice ua x.ev.args.length uc))
  have E6 := E50.row_ hgl (x.ev.cells (.slice ua x.ev.args.length uc)).toArray
  have T6 := T50.grown (grown_setRow w50 g2 (x.ev.cells (.slice ua x.ev.args.length uc)).toArray) (by simpa using hg12)
  have O6 : Ow _ w4.heap.size a5 _ c5 _ := O50.kept (grown_setRow w50 g2 (x.ev.cells (.slice ua x.ev.args.length uc)).toArray) (fun b off e => by simpa using ha5 b off e)
  generalize w50.setRow g2 (x.ev.cells (.slice ua x.ev.args.length uc)).toArray = w6 at *
  refine e_nil (hR.out _ _ ?_)
  clear hR R
  refine hK10 _ _ ?_
  clear hK10 K10
  refine wp_seq_k (fun K11 hK11 => ?_)
  refine e_region (fun R hR => ?_)
  refine e_op H rfl rfl (by decide) (x_fieldAddr H rfl rfl (fa95_2 _ _)) ?_
  clear H a; intro a H
  refine e_op H rfl rfl (by decide) (x_load H rfl rfl (ld_words T6 hx.words)) ?_
  clear H a; intro a H
  refine e_op H rfl rfl (by decide) (x_move H rfl rfl) ?_
  clear H a; intro a H
  refine e_callq H rfl rfl (by decide) rfl rfl (Try.call118 _) (clkBytes_any x.words hx.words hx.w64 a5 _ c5 (([UInt8.ofNat x.what] ++ putU x.era.toNat) ++ putU x.idx) w6 O6.bs O6.cap.2 (by simp only [List.length_append, List.length_cons, List.length_nil]; omega)) ?_
  clear H a
  rintro e w7 ⟨a7, c7, rfl, O7, F7⟩
  refine ⟨_, rfl, fun a H => ?_⟩
  have E7 := E6.tr F7
  have T7 := T6.ext F7
  have D7 := D6.ext F7
  refine e_op H rfl rfl (by decide) (x_assign H rfl rfl) ?_
  clear H a; intro a H
  refine e_nil (hR.out _ _ ?_)
  clear hR R
  refine hK11 _ _ ?_
  clear hK11 K11
  refine wp_seq_k (fun K12 hK12 => ?_)
  refine wp_seq_k (fun K13 hK13 => ?_)
  refine e_region (fun R hR => ?_)
  refine e_op H rfl rfl (by decide) (x_fieldAddr H rfl rfl (fa93_0 _ _)) ?_
  clear H a; intro a H
  refine e_op H rfl rfl (by decide) (x_load H rfl rfl (l_cell Try.isAgg3 (D7.at_ (i := 0) (v := .int .i64 ((x.ev.a.toNat : Nat) : Int)) (by rw [Int.toNat_of_nonneg (by omega)]; rfl)))) ?_
  clear H a; intro a H
  refine e_op H rfl rfl (by decide) (x_fieldAddr H rfl rfl (fa93_2 _ _)) ?_
  clear H a; intro a H
  refine e_op H rfl rfl (by decide) (x_load H rfl rfl (l_cell Try.isAgg90 (D7.at_ (i := 2) rfl))) ?_
  clear H a; intro a H
  refine e_op H rfl rfl (by decide) (x_conv H rfl rfl (c_int (z := ((x.ev.kind : Nat) : Int)) Try.underlying90 Try.underlying3 (by rw [IntKind.wrap_i64]; omega))) ?_
  clear H a; intro a H
  refine e_op H rfl rfl (by decide) (x_fieldAddr H rfl rfl (fa93_3 _ _)) ?_
  clear H a; intro a H
  refine e_op H rfl rfl (by decide) (x_load H rfl rfl (l_cell Try.isAgg3 (D7.at_ (i := 3) (v := .int .i64 ((x.ev.c.toNat : Nat) : Int)) (by rw [Int.toNat_of_nonneg (by omega)]; rfl)))) ?_
  clear H a; intro a H
  refine e_op H rfl rfl (by decide) (x_fieldAddr H rfl rfl (fa93_4 _ _)) ?_
  clear H a; intro a H
  refine e_op H rfl rfl (by decide) (x_load H rfl rfl (l_cell Try.isAgg3 (D7.at_ (i := 4) (v := .int .i64 ((x.ev.d.toNat : Nat) : Int)) (by rw [Int.toNat_of_nonneg (by omega)]; rfl)))) ?_
  clear H a; intro a H
  refine e_op H rfl rfl (by decide) (x_fieldAddr H rfl rfl (fa93_5 _ _)) ?_
  clear H a; intro a H
  refine e_op H rfl rfl (by decide) (x_load H rfl rfl (l_cell Try.isAgg3 (D7.at_ (i := 5) (v := .int .i64 ((x.ev.e.toNat : Nat) : Int)) (by rw [Int.toNat_of_nonneg (by omega)]; rfl)))) ?_
  clear H a; intro a H
  refine e_op H rfl rfl (by decide) (x_fieldAddr H rfl rfl (fa93_6 _ _)) ?_
  clear H a; intro a H
  refine e_op H rfl rfl (by decide) (x_load H rfl rfl (l_cell Try.isAgg3 (D7.at_ (i := 6) (v := .int .i64 ((x.ev.f.toNat : Nat) : Int)) (by rw [Int.toNat_of_nonneg (by omega)]; rfl)))) ?_
  clear H a; intro a H
  refine e_op H rfl rfl (by decide) (x_build H rfl rfl (bld195 _ _ _ _ _ _ _)) ?_
  clear H a; intro a H
  refine e_op H rfl rfl (by decide) (x_move H rfl rfl) ?_
  clear H a; intro a H
  refine e_nil (hR.out _ _ ?_)
  clear hR R
  rw [show [x.ev.a.toNat, x.ev.kind, x.ev.c.toNat, x.ev.d.toNat, x.ev.e.toNat, x.ev.f.toNat] = six x.ev from rfl] at H
  refine hK13 _ _ ?_
  clear hK13 K13
  refine wp_block ?_
  refine wp_loop_ghost (fun n a w => ∃ i L ab cb, i ≤ 6 ∧ n = 6 - i ∧ L = ((([UInt8.ofNat x.what] ++ putU x.era.toNat) ++ putU x.idx) ++ clkB x.words) ++ ((six x.ev).take i).flatMap putU ∧ Has a 84 [(3, .slice ab L.length cb), (4, .pointer (some ⟨g2, 0, none⟩)), (47, .agg (i64n (six x.ev)).toArray), (48, .int .i64 (i : Int))] ∧ Ow w w0.heap.size ab L.length cb L ∧ Blk w g2 93 (x.ev.cells (.slice ua x.ev.args.length uc)) ∧ Ext w0 w) (6) ?_ ?_
  · skip
    exact ⟨0, _, a7, c7, by omega, rfl, by simp, H.sub ⟨rfl, rfl, rfl, rfl, trivial⟩, O7.mono E6.sz, D7, E7⟩
  · skip
    clear H a O7 D7 T7 E7 F7 O6 D6 T6 E6 O50 T50 E50 D0 hF ha5
    intro n a w hI
    obtain ⟨i, L, ab, cb, hi, rfl, hL, H, O, D, E⟩ := hI
    have hfl : (((six x.ev).take i).flatMap putU).length ≤ i * 11 := by refine Nat.le_trans (flat_le putU 11 _ (fun x _ => putU_le x)) ?_; rw [List.length_take]; exact Nat.mul_le_mul_right _ (by omega)
    have hLl : L.length ≤ 1000 := by rw [hL]; unfold clkB; simp only [List.length_append, List.length_cons, List.length_nil]; omega
    rcases (show (i < 6) ∨ i = 6 by omega) with hlt | rfl
    · skip
      skip
      refine wp_seq_k (fun K14 hK14 => ?_)
      refine e_region (fun R hR => ?_)
      refine e_op H rfl rfl (by decide) (x_binI H rfl rfl rfl (b_lss (b := true) (dec_t (by omega)))) ?_
      clear H a; intro a H
      refine e_nil (hR.out _ _ ?_)
      clear hR R
      refine hK14 _ _ ?_
      clear hK14 K14
      refine wp_seq_k (fun K15 hK15 => ?_)
      refine c_true H rfl ?_
      refine wp_skip ?_
      refine hK15 _ _ ?_
      clear hK15 K15
      refine wp_seq_k (fun K16 hK16 => ?_)
      refine wp_block ?_
      refine wp_seq_k (fun K17 hK17 => ?_)
      refine e_region (fun R hR => ?_)
      refine e_op H rfl rfl (by decide) (x_index H rfl rfl rfl (i_val (m := i) Try.underlying195 Try.sizeOf3 Try.isAgg3 (rfl) (by omega) (i64n_get (six x.ev) i hlt))) ?_
      clear H a; intro a H
      refine e_op H rfl rfl (by decide) (x_assign H rfl rfl) ?_
      clear H a; intro a H
      refine e_nil (hR.out _ _ ?_)
      clear hR R
      refine hK17 _ _ ?_
      clear hK17 K17
      refine e_region (fun R hR => ?_)
      refine e_op H rfl rfl (by decide) (x_move H rfl rfl) ?_
      clear H a; intro a H
      refine e_op H rfl rfl (by decide) (x_move H rfl rfl) ?_
      clear H a; intro a H
      refine e_op H rfl rfl (by decide) (x_conv H rfl rfl (c_int (z := (((six x.ev)[i]?.getD 0 : Nat) : Int)) Try.underlying3 Try.underlying56 (by have := six_lt hg k1 i; rw [IntKind.wrap_u64]; omega))) ?_
      clear H a; intro a H
      refine e_callq H rfl rfl (by decide) rfl rfl (Try.call46 _) (putUint_any ab L.length cb L _ w O.bs O.cap.2 (six_lt hg k1 i) (by omega)) ?_
      clear H a
      rintro e w8 ⟨a8, c8, rfl, O8, F8⟩
      refine ⟨_, rfl, fun a H => ?_⟩
      refine e_op H rfl rfl (by decide) (x_assign H rfl rfl) ?_
      clear H a; intro a H
      refine e_nil (hR.out _ _ ?_)
      clear hR R
      refine hK16 _ _ ?_
      clear hK16 K16
      refine e_region (fun R hR => ?_)
      refine e_op H rfl rfl (by decide) (x_binI H rfl rfl rfl (b_add (z := ((i + 1 : Nat) : Int)) (by rw [IntKind.wrap_i64]; omega))) ?_
      clear H a; intro a H
      refine e_op H rfl rfl (by decide) (x_move H rfl rfl) ?_
      clear H a; intro a H
      refine e_nil (hR.out _ _ ?_)
      clear hR R
      refine ⟨6 - (i + 1), by omega, i + 1, _, a8, c8, by omega, rfl, ?_, H.sub ⟨rfl, rfl, rfl, rfl, trivial⟩, O8.mono E.sz, D.ext F8, E.tr F8⟩
      rw [hL, List.take_add_one, List.flatMap_append, List.getElem?_eq_getElem (show i < (six x.ev).length from hlt)]; simp
    · skip
      skip
      refine wp_seq_k (fun K18 hK18 => ?_)
      refine e_region (fun R hR => ?_)
      refine e_op H rfl rfl (by decide) (x_binI H rfl rfl rfl (b_lss (b := false) (dec_f (by omega)))) ?_
      clear H a; intro a H
      refine e_nil (hR.out _ _ ?_)
      clear hR R
      refine hK18 _ _ ?_
      clear hK18 K18
      refine wp_seq_k (fun K19 hK19 => ?_)
      refine c_false H rfl ?_
      refine wp_exit ?_
      refine t_exit ?_
      refine t_exit ?_
      refine b_hit ?_
      clear hK19 K19
      refine hK12 _ _ ?_
      clear hK12 K12
      refine wp_seq_k (fun K20 hK20 => ?_)
      refine e_region (fun R hR => ?_)
      refine e_op H rfl rfl (by decide) (x_move H rfl rfl) ?_
      clear H a; intro a H
      refine e_op H rfl rfl (by decide) (x_fieldAddr H rfl rfl (fa93_7 _ _)) ?_
      clear H a; intro a H
      refine e_op H rfl rfl (by decide) (x_load H rfl rfl (l_cell Try.isAgg2 (D.at_ (i := 7) rfl))) ?_
      clear H a; intro a H
      refine e_callq H rfl rfl (by decide) rfl rfl (Try.call64 _) (putInt_any ab L.length cb L x.ev.g w O.bs O.cap.2 hx.ev.g.1 hx.ev.g.2 (by omega)) ?_
      clear H a
      rintro e w9 ⟨a9, c9, rfl, O9, F9⟩
      refine ⟨_, rfl, fun a H => ?_⟩
      have E9 := E.tr F9
      have D9 := D.ext F9
      have pz := putU_le (zz x.ev.g)
      refine e_op H rfl rfl (by decide) (x_assign H rfl rfl) ?_
      clear H a; intro a H
      refine e_nil (hR.out _ _ ?_)
      clear hR R
      refine hK20 _ _ ?_
      clear hK20 K20
      refine wp_seq_k (fun K21 hK21 => ?_)
      refine e_region (fun R hR => ?_)
      refine e_op H rfl rfl (by decide) (x_move H rfl rfl) ?_
      clear H a; intro a H
      refine e_op H rfl rfl (by decide) (x_fieldAddr H rfl rfl (fa93_8 _ _)) ?_
      clear H a; intro a H
      refine e_op H rfl rfl (by decide) (x_load H rfl rfl (l_cell Try.isAgg91 (D9.at_ (i := 8) rfl))) ?_
      clear H a; intro a H
      refine e_op H rfl rfl (by decide) (x_builtin H rfl rfl (fun cs => len_sl under91)) ?_
      clear H a; intro a H
      refine e_op H rfl rfl (by decide) (x_conv H rfl rfl (c_int (z := ((x.ev.args.length : Nat) : Int)) Try.underlying3 Try.underlying56 (by rw [IntKind.wrap_u64]; omega))) ?_
      clear H a; intro a H
      refine e_callq H rfl rfl (by decide) rfl rfl (Try.call46 _) (putUint_any _ _ _ (L ++ putU (zz x.ev.g)) x.ev.args.length w9 O9.bs O9.cap.2 (by omega) (by simp only [List.length_append]; omega)) ?_
      clear H a
      rintro e w10 ⟨a10, c10, rfl, O10, F10⟩
      refine ⟨_, rfl, fun a H => ?_⟩
      have E10 := E9.tr F10
      have D10 := D9.ext F10
      have pl := putU_le x.ev.args.length
      refine e_op H rfl rfl (by decide) (x_assign H rfl rfl) ?_
      clear H a; intro a H
      refine e_nil (hR.out _ _ ?_)
      clear hR R
      refine hK21 _ _ ?_
      clear hK21 K21
      refine wp_seq_k (fun K22 hK22 => ?_)
      refine e_region (fun R hR => ?_)
      refine e_op H rfl rfl (by decide) (x_fieldAddr H rfl rfl (fa93_8 _ _)) ?_
      clear H a; intro a H
      refine e_op H rfl rfl (by decide) (x_load H rfl rfl (l_cell Try.isAgg91 (D10.at_ (i := 8) rfl))) ?_
      clear H a; intro a H
      refine e_op H rfl rfl (by decide) (x_builtin H rfl rfl (fun cs => len_sl under91)) ?_
      clear H a; intro a H
      refine e_op H rfl rfl (by decide) (x_move H rfl rfl) ?_
      clear H a; intro a H
      refine e_nil (hR.out _ _ ?_)
      clear hR R
      refine hK22 _ _ ?_
      clear hK22 K22
      refine wp_block ?_
      refine wp_loop_ghost (fun n a w => ∃ j L2 ab cb, j ≤ x.ev.args.length ∧ n = x.ev.args.length - j ∧ L2 = ((L ++ putU (zz x.ev.g)) ++ putU x.ev.args.length) ++ argsB (x.ev.args.take j) ∧ Has a 84 [(3, .slice ab L2.length cb), (67, .slice ua x.ev.args.length uc), (68, .int .i64 ((x.ev.args.length : Nat) : Int)), (69, .int .i64 (j : Int))] ∧ Ow w w0.heap.size ab L2.length cb L2 ∧ Ext w0 w) (x.ev.args.length) ?_ ?_
      · skip
        exact ⟨0, _, a10, c10, by omega, rfl, by simp [argsB], H.sub ⟨rfl, rfl, rfl, rfl, trivial⟩, O10.mono E9.sz, E10⟩
      · skip
        clear H a O10 D10 E10 F10 O9 D9 E9 F9 O D E
        intro n a w hI
        obtain ⟨j, L2, ab2, cb2, hj, rfl, hL2, H, O, E⟩ := hI
        have hfa := argsB_le x.ev.args j
        have hLl2 : L2.length ≤ 1200 := by rw [hL2]; simp only [List.length_append]; omega
        rcases (show (j < x.ev.args.length) ∨ j = x.ev.args.length by omega) with hlt | rfl
        · skip
          obtain ⟨bb, ob, rfl, hc⟩ := (hzs.ext E).cell j hlt
          have hzj : -9223372036854775808 ≤ x.ev.args[j]?.getD 0 ∧ x.ev.args[j]?.getD 0 ≤ 9223372036854775807 := by rw [List.getElem?_eq_getElem hlt]; exact hx.ev.args _ (List.getElem_mem _)
          refine wp_seq_k (fun K23 hK23 => ?_)
          refine e_region (fun R hR => ?_)
          refine e_op H rfl rfl (by decide) (x_binI H rfl rfl rfl (b_lss (b := true) (dec_t (by omega)))) ?_
          clear H a; intro a H
          refine e_nil (hR.out _ _ ?_)
          clear hR R
          refine hK23 _ _ ?_
          clear hK23 K23
          refine wp_seq_k (fun K24 hK24 => ?_)
          refine c_true H rfl ?_
          refine wp_skip ?_
          refine hK24 _ _ ?_
          clear hK24 K24
          refine wp_seq_k (fun K25 hK25 => ?_)
          refine wp_block ?_
          refine wp_seq_k (fun K26 hK26 => ?_)
          refine e_region (fun R hR => ?_)
          refine e_op H rfl rfl (by decide) (x_indexAddr H rfl rfl rfl (i_sl (m := j) under91 Try.sizeOf2 rfl hlt)) ?_
          clear H a; intro a H
          refine e_op H rfl rfl (by decide) (x_load H rfl rfl (l_cell Try.isAgg2 (hc))) ?_
          clear H a; intro a H
          refine e_op H rfl rfl (by decide) (x_assign H rfl rfl) ?_
          clear H a; intro a H
          refine e_nil (hR.out _ _ ?_)
          clear hR R
          refine hK26 _ _ ?_
          clear hK26 K26
          refine e_region (fun R hR => ?_)
          refine e_op H rfl rfl (by decide) (x_move H rfl rfl) ?_
          clear H a; intro a H
          refine e_op H rfl rfl (by decide) (x_move H rfl rfl) ?_
          clear H a; intro a H
          refine e_callq H rfl rfl (by decide) rfl rfl (Try.call64 _) (putInt_any ab2 L2.length cb2 L2 _ w O.bs O.cap.2 hzj.1 hzj.2 (by omega)) ?_
          clear H a
          rintro e w8 ⟨a8, c8, rfl, O8, F8⟩
          refine ⟨_, rfl, fun a H => ?_⟩
          refine e_op H rfl rfl (by decide) (x_assign H rfl rfl) ?_
          clear H a; intro a H
          refine e_nil (hR.out _ _ ?_)
          clear hR R
          refine hK25 _ _ ?_
          clear hK25 K25
          refine e_region (fun R hR => ?_)
          refine e_op H rfl rfl (by decide) (x_binI H rfl rfl rfl (b_add (z := ((j + 1 : Nat) : Int)) (by rw [IntKind.wrap_i64]; omega))) ?_
          clear H a; intro a H
          refine e_op H rfl rfl (by decide) (x_move H rfl rfl) ?_
          clear H a; intro a H
          refine e_nil (hR.out _ _ ?_)
          clear hR R
          refine ⟨x.ev.args.length - (j + 1), by omega, j + 1, _, a8, c8, by omega, rfl, ?_, H.sub ⟨rfl, rfl, rfl, rfl, trivial⟩, O8.mono E.sz, E.tr F8⟩
          rw [hL2, argsB_succ _ _ hlt]; simp
        · skip
          skip
          refine wp_seq_k (fun K27 hK27 => ?_)
          refine e_region (fun R hR => ?_)
          refine e_op H rfl rfl (by decide) (x_binI H rfl rfl rfl (b_lss (b := false) (dec_f (by omega)))) ?_
          clear H a; intro a H
          refine e_nil (hR.out _ _ ?_)
          clear hR R
          refine hK27 _ _ ?_
          clear hK27 K27
          refine wp_seq_k (fun K28 hK28 => ?_)
          refine c_false H rfl ?_
          refine wp_exit ?_
          refine t_exit ?_
          refine t_exit ?_
          refine b_hit ?_
          clear hK28 K28
          refine hK7 _ _ ?_
          clear hK7 K7
          refine wp_seq_k (fun K29 hK29 => ?_)
          refine e_region (fun R hR => ?_)
          refine e_op H rfl rfl (by decide) (x_move H rfl rfl) ?_
          clear H a; intro a H
          refine e_op H rfl rfl (by decide) (x_assign H rfl rfl) ?_
          clear H a; intro a H
          refine e_nil (hR.out _ _ ?_)
          clear hR R
          refine hK29 _ _ ?_
          clear hK29 K29
          refine wp_ret ?_
          have hB : x.bytes = L2 := by
            rw [hL2, hL, List.take_length]
            unfold Rcd.bytes Rcd.bytes0 Evt.bytes six
            rw [if_pos hg, if_pos k1]
            simp [List.append_assoc]
          rw [hB]
          exact ret1 H rfl rfl ⟨_, _, rfl, O, E⟩
theorem rbytes_any (x : Rcd) (u : Value) (w0 : World) (hx : x.ok) (hu : Zl w0 u x.ev.args) : Calls Try.prog 70 #[.agg (x.cells u).toArray] w0 (OutPost x.bytes w0) := by
  have hu2 := hu
  obtain ⟨ua, un, uc, rfl, hzs, _⟩ := hu2
  cases hg : x.good with
  | false => exact bytesF x ua un uc w0 hx hu hg
  | true =>
    rcases good_what hg with k | k | k
    · obtain rfl : x.ev.args.length = un := hzs.leng
      exact bytes1 x ua uc w0 hx hu hzs hg k
    · exact bytes2 x ua un uc w0 hx hu hg k
    · exact bytes3 x ua un uc w0 hx hu hg k
theorem size_any (x : Rcd) (u : Value) (w0 : World) (hx : x.ok) (hu : Zl w0 u x.ev.args) : Calls Try.prog 116 #[.agg (x.cells u).toArray] w0 fun e w' => e = .returned (.int .i64 ((x.size : Nat) : Int)) ∧ Ext w0 w' := by
  refine calls_has (args := [.agg (x.cells u).toArray]) Try.func116 rfl Try.ntmps116 (Nat.le_of_ble_eq_true rfl) (fun a H => ?_)
  simp only [argl, Nat.reduceAdd] at H
  refine wp_seq_k (fun K1 hK1 => ?_)
  refine e_region (fun R hR => ?_)
  refine e_op H rfl rfl (by decide) (x_box H rfl rfl bx_new) ?_
  clear H a; intro a H
  have T1 := Blk.new w0 95 (x.cells u)
  have E1 := (Ext.refl w0).al (.cells (x.cells u).toArray 95)
  obtain ⟨g1, hg1⟩ : ∃ g, g = w0.heap.size := ⟨_, rfl⟩
  rw [← hg1] at H T1
  generalize w0.alloc (.cells (x.cells u).toArray 95) = w1 at *
  refine e_op H rfl rfl (by decide) (x_assign H rfl rfl) ?_
  clear H a; intro a H
  refine e_nil (hR.out _ _ ?_)
  clear hR R
  refine hK1 _ _ ?_
  clear hK1 K1
  refine wp_seq_k (fun K2 hK2 => ?_)
  refine e_region (fun R hR => ?_)
  refine e_op H rfl rfl (by decide) (x_load H rfl rfl (ld_rec T1 hx.words)) ?_
  clear H a; intro a H
  refine e_callq H rfl rfl (by decide) rfl rfl (Try.call70 _) (rbytes_any x u w1 hx (hu.ext E1)) ?_
  clear H a
  rintro e w2 ⟨a2, c2, rfl, O2, F2⟩
  refine ⟨_, rfl, fun a H => ?_⟩
  refine e_op H rfl rfl (by decide) (x_builtin H rfl rfl (fun cs => len_sl Try.underlying22)) ?_
  clear H a; intro a H
  refine e_op H rfl rfl (by decide) (x_assign H rfl rfl) ?_
  clear H a; intro a H
  refine e_nil (hR.out _ _ ?_)
  clear hR R
  refine hK2 _ _ ?_
  clear hK2 K2
  refine wp_ret ?_
  exact ret1 H rfl rfl ⟨rfl, E1.tr F2⟩
end Go.Proofs.Ytknllmcpogoeoaa
