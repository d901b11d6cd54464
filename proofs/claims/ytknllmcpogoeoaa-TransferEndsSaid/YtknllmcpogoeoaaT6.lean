/- chunks, bounds, Clone, Equal, sum and seal, walked. -/
import Derived.Test.YtknllmcpogoeoaaT5
import Derived.Lib.SliceRun
namespace Go.Proofs.Ytknllmcpogoeoaa
open Go.RowKit
set_option linter.unusedVariables false
set_option linter.unusedSimpArgs false
set_option maxRecDepth 100000
section
variable {P : Program} {a : Act} {N : Nat} {l : List (Nat × Value)} {w : World} {o : Oper} {v : Value} {Q : Exit → Act → World → Prop} {ops : Array Oper} {rest : List Oper} {d : Nat}
theorem e_callqg (H : Has a N l) {f : FuncId} {xs : List Operand} {ts : Array TypeId} {vs : List Value} (hw : Region.wanted o (yielded ops a.tmps) = true) (hd : o.dst = some d) (hdN : d < N)
    (ho : o.op = .call { callee := .value (.func f), args := xs.toArray, argTypes := ts }) (he : evs l xs = some vs) (hent : ∀ w, (callFunc f vs.toArray).run P w = .ok (.enter f vs.toArray) w)
    {S : Ending → World → Prop} (C : Calls P f vs.toArray w S)
    (k : ∀ e w', S e w' → ∃ v, e = .returned v ∧ ∀ a, Has a N ((d, v) :: l) → wpList P ops Q rest a w') : wpList P ops Q (o :: rest) a w := by
  refine wpList_step fun K hK => ?_
  rw [if_pos hw]
  unfold Oper.wp
  rw [run_call H ho he (hent w), Oper.upon_enter]
  refine C.mono ?_
  intro e w1 hS
  obtain ⟨v, rfl, h⟩ := k e w1 hS
  rw [hd]
  exact hK _ _ (h _ (H.put hdN))
end
theorem b_npnil {P : Program} {w : World} {t e : TypeId} {x : Option Addr} {c : Bool} (hu : P.underlying t = some (.pointer e)) (h : (!x.isNone) = c) : (binOp .neq t (.pointer x) (.pointer none)).run P w = .ok (.bool c) w := by
  subst h
  exact run_neq_pointer_nil w t x (by simp [Program.pointee, hu])
theorem bi_max {P : Program} {w : World} {ts : Array TypeId} {ty : TypeId} {cs : Array Bool} {k k' : IntKind} {x y z : Int} (h : (if y > x then y else x) = z) : (builtin .max ts ty cs #[.int k x, .int k' y]).run P w = .ok (.value (.int k z)) w := by
  subst h
  simp only [builtin, Sem.run_bind, run_max_int2, Result.andThen_ok, Sem.run_pure]
theorem ow_cap {w : World} {B : Nat} {a : Option Addr} {n c : Nat} {l : List UInt8} (h : Ow w B a n c l) : a = none → c = 0 := by
  intro e
  rcases h.2 with ⟨e2, _⟩ | ⟨g, cap, cur, e2, _⟩
  · simp only [Value.slice.injEq] at e2; exact e2.2.2
  · simp only [Value.slice.injEq] at e2; rw [e2.1] at e; cases e
theorem ow_le {w : World} {B : Nat} {a : Option Addr} {n c : Nat} {l : List UInt8} (h : Ow w B a n c l) : n ≤ c := by
  rcases h.2 with ⟨e2, h0⟩ | ⟨g, cap, cur, e2, _, _, h1, _⟩
  · simp only [Value.slice.injEq] at e2; omega
  · simp only [Value.slice.injEq] at e2; omega
theorem Ow.ext_ {w w' : World} {B : Nat} {a : Option Addr} {n c : Nat} {l : List UInt8} (h : Ow w B a n c l) (E : Ext w w') : Ow w' B a n c l := E.row h
theorem ow_nil (w : World) (B : Nat) : Ow w B none 0 0 [] := World.ownsRow_nil _ _ _ _
theorem bs_lo {w : World} {a : Option Addr} {n c : Nat} {l : List UInt8} (h : Bs w a n l) (lo : Nat) (h1 : lo ≤ n) (h2 : n ≤ c) : Bs w (cutA a c lo) (n - lo) (l.drop lo) := by
  have := h.cutAt lo n c h1 (Nat.le_refl _) h2
  rwa [List.take_of_length_le (by rw [List.length_drop, h.leng]; exact Nat.le_refl _)] at this
theorem bs_lh {w : World} {a : Option Addr} {n c : Nat} {l : List UInt8} (h : Bs w a n l) (lo hi : Nat) (h1 : lo ≤ hi) (h2 : hi ≤ n) (h3 : n ≤ c) : Bs w (cutA a c lo) (hi - lo) ((l.drop lo).take (hi - lo)) := h.cutAt lo hi c h1 h2 h3
theorem bs_hi {w : World} {a : Option Addr} {n : Nat} {l : List UInt8} (h : Bs w a n l) (hi : Nat) (h1 : hi ≤ n) : Bs w a hi (l.take hi) := by
  have := h.sub 0 hi (by omega) (a' := a) (fun b off e _ => by rw [e]; simp)
  simpa using this
theorem conv_bsR {w : World} {a : Option Addr} {len cap : Nat} {l : List UInt8} (h : Bs w a len l) : (convert 22 9 (.slice a len cap)).run Try.prog w = .ok (.string ⟨l.toArray⟩) w := by
  have hl := h.leng
  cases a with
  | none =>
    have : l = [] := by
      cases l with
      | nil => rfl
      | cons x r =>
        obtain ⟨b, off, e, _⟩ := h.cell 0 (by simp at hl; omega)
        cases e
    subst this
    exact run_convert_bytes_nil w 22 5 Try.underlying22 Try.underlying5 len cap 9 Try.underlying9
  | some ad =>
    rw [← hl]
    refine run_convert_bytes_back w 22 9 5 ad cap l Try.underlying22 Try.underlying5 Try.underlying9 (fun j hj => ?_)
    obtain ⟨b, off, e, hc⟩ := h.cell j (by omega)
    simp only [Option.some.injEq] at e
    rw [e, Addr.add_lit, hc]
    simp [nb, List.getElem?_eq_getElem hj]
theorem eqg9 {x y : Operand} {s : ByteArray} {v : Value} {w : World} : (eqGuard .eql 9 x y (.string s) v).run Try.prog w = .ok () w := by
  rw [eqGuard_at_string]; rfl
theorem eql9d {l r : List UInt8} {w : World} : (binOp .eql 9 (.string ⟨l.toArray⟩) (.string ⟨r.toArray⟩)).run Try.prog w = .ok (.bool (decide (l = r))) w := by
  by_cases h : l = r
  · subst h; simp [binOp, Op.stringOp]
  · simp [binOp, Op.stringOp, h]
theorem bs1 (i : Int) (w : World) : (Instr.buildSlice 22 1 #[(0, .int .u8 i)]).run Try.prog w = .ok (.slice (some ⟨w.heap.size, 0, none⟩) 1 1) (w.alloc (.cells #[.int .u8 i] 5)) := by kernel_rfl
theorem bs4 (i j k m : Int) (w : World) : (Instr.buildSlice 22 4 #[(0, .int .u8 i), (1, .int .u8 j), (2, .int .u8 k), (3, .int .u8 m)]).run Try.prog w = .ok (.slice (some ⟨w.heap.size, 0, none⟩) 4 4) (w.alloc (.cells #[.int .u8 i, .int .u8 j, .int .u8 k, .int .u8 m] 5)) := by kernel_rfl
/-- a copy of some bytes, by an append to nothing -/
theorem app_new {w : World} {ax : Option Addr} {m cx : Nat} {r : List UInt8} (hb : Bs w ax m r) (hm : m ≤ 140737488355328) (hx : ax = none → cx = 0) :
    ∃ a' c' w', (Builtin.append_ #[22, 22] 22 #[.slice (some ⟨w.heap.size, 0, none⟩) 0 0, .slice ax m cx]).run Try.prog (w.alloc (.cells #[] 5)) = .ok (.slice a' m c') w' ∧ Ow w' w.heap.size a' m c' r ∧ Ext w w' := by
  have Z := Ow.zero w w.heap.size rfl w.heap.size (Nat.le_refl _)
  have E1 := (Ext.refl w).al (.cells #[] 5)
  obtain ⟨a', c', w', hr, O, G⟩ := run_app (w.alloc (.cells #[] 5)) 22 w.heap.size (some ⟨w.heap.size, 0, none⟩) 0 0 [] ax m cx r Z (E1.bs hb) (by omega) (by rw [World.size_alloc]; omega) hx
  rw [Nat.zero_add] at hr O
  exact ⟨a', c', w', hr, O, E1.app Z (Nat.le_refl _) G⟩
theorem chunks_any (n : Nat) (w0 : World) (hn : n ≤ 140737488351232) : Calls Try.prog 109 #[.int .i64 (n : Int)] w0 fun e w' => e = .returned (.int .i64 ((chunksT n : Nat) : Int)) ∧ w' = w0 := by
  refine calls_has (args := [.int .i64 (n : Int)]) Try.func109 rfl Try.ntmps109 (Nat.le_of_ble_eq_true rfl) (fun a H => ?_)
  simp only [argl, Nat.reduceAdd] at H
  refine wp_seq_k (fun K1 hK1 => ?_)
  refine e_region (fun R hR => ?_)
  refine e_op H rfl rfl (by decide) (x_assign H rfl rfl) ?_
  clear H a; intro a H
  refine e_nil (hR.out _ _ ?_)
  clear hR R
  refine hK1 _ _ ?_
  clear hK1 K1
  refine wp_seq_k (fun K2 hK2 => ?_)
  refine e_region (fun R hR => ?_)
  refine e_op H rfl rfl (by decide) (x_move H rfl rfl) ?_
  clear H a; intro a H
  refine e_op H rfl rfl (by decide) (x_binI H rfl rfl rfl (b_add (z := ((n + 64 : Nat) : Int)) (by rw [IntKind.wrap_i64]; omega))) ?_
  clear H a; intro a H
  refine e_op H rfl rfl (by decide) (x_binI H rfl rfl rfl (b_sub (z := ((n + 63 : Nat) : Int)) (by rw [IntKind.wrap_i64]; omega))) ?_
  clear H a; intro a H
  refine e_op H rfl rfl (by decide) (x_binI H rfl rfl rfl (b_quo (z := (((n + 63) / 64 : Nat) : Int)) (by decide) (by rw [Int.tdiv_eq_ediv_of_nonneg (by omega), IntKind.wrap_i64]; omega))) ?_
  clear H a; intro a H
  refine e_op H rfl rfl (by decide) (x_builtin H rfl rfl (fun cs => bi_max (z := ((chunksT n : Nat) : Int)) (by unfold chunksT; split <;> omega))) ?_
  clear H a; intro a H
  refine e_op H rfl rfl (by decide) (x_assign H rfl rfl) ?_
  clear H a; intro a H
  refine e_nil (hR.out _ _ ?_)
  clear hR R
  refine hK2 _ _ ?_
  clear hK2 K2
  refine wp_ret ?_
  exact ret1 H rfl rfl ⟨rfl, rfl⟩
theorem bounds_any (n i : Nat) (w0 : World) (hn : n ≤ 140737488351232) (hi : i ≤ 140737488351232) : Calls Try.prog 113 #[.int .i64 (n : Int), .int .i64 (i : Int)] w0 fun e w' => e = .returned (.tuple #[.int .i64 ((i * 64 : Nat) : Int), .int .i64 ((min ((i + 1) * 64) n : Nat) : Int)]) ∧ w' = w0 := by
  refine calls_has (args := [.int .i64 (n : Int), .int .i64 (i : Int)]) Try.func113 rfl Try.ntmps113 (Nat.le_of_ble_eq_true rfl) (fun a H => ?_)
  simp only [argl, Nat.reduceAdd] at H
  refine wp_seq_k (fun K1 hK1 => ?_)
  refine e_region (fun R hR => ?_)
  refine e_op H rfl rfl (by decide) (x_assign H rfl rfl) ?_
  clear H a; intro a H
  refine e_op H rfl rfl (by decide) (x_assign H rfl rfl) ?_
  clear H a; intro a H
  refine e_nil (hR.out _ _ ?_)
  clear hR R
  refine hK1 _ _ ?_
  clear hK1 K1
  refine wp_seq_k (fun K2 hK2 => ?_)
  refine e_region (fun R hR => ?_)
  refine e_op H rfl rfl (by decide) (x_move H rfl rfl) ?_
  clear H a; intro a H
  refine e_op H rfl rfl (by decide) (x_binI H rfl rfl rfl (b_mul (z := ((i * 64 : Nat) : Int)) (by rw [IntKind.wrap_i64]; omega))) ?_
  clear H a; intro a H
  refine e_op H rfl rfl (by decide) (x_move H rfl rfl) ?_
  clear H a; intro a H
  refine e_op H rfl rfl (by decide) (x_binI H rfl rfl rfl (b_add (z := ((i + 1 : Nat) : Int)) (by rw [IntKind.wrap_i64]; omega))) ?_
  clear H a; intro a H
  refine e_op H rfl rfl (by decide) (x_binI H rfl rfl rfl (b_mul (z := (((i + 1) * 64 : Nat) : Int)) (by rw [IntKind.wrap_i64]; omega))) ?_
  clear H a; intro a H
  refine e_op H rfl rfl (by decide) (x_move H rfl rfl) ?_
  clear H a; intro a H
  refine e_op H rfl rfl (by decide) (x_builtin H rfl rfl (fun cs => bi_min (z := ((min ((i + 1) * 64) n : Nat) : Int)) (by split <;> omega))) ?_
  clear H a; intro a H
  refine e_op H rfl rfl (by decide) (x_assign H rfl rfl) ?_
  clear H a; intro a H
  refine e_op H rfl rfl (by decide) (x_assign H rfl rfl) ?_
  clear H a; intro a H
  refine e_nil (hR.out _ _ ?_)
  clear hR R
  refine hK2 _ _ ?_
  clear hK2 K2
  refine wp_ret ?_
  exact ret2 H rfl rfl rfl ⟨rfl, rfl⟩
theorem clone_bs (ad : Option Addr) (n c : Nat) (l : List UInt8) (w0 : World) (hb : Bs w0 ad n l) (hz : ad = none → c = 0) (hn : n ≤ 140737488355328) :
    Calls Try.prog 110 #[.slice ad n c] w0 fun e w' => ∃ a c, e = .returned (.slice a n c) ∧ Ow w' w0.heap.size a n c l ∧ Ext w0 w' := by
  cases ad with
  | some ad =>
    refine calls_has (args := [.slice (some ad) n c]) Try.func110 rfl Try.ntmps110 (Nat.le_of_ble_eq_true rfl) (fun a H => ?_)
    simp only [argl, Nat.reduceAdd] at H
    refine wp_seq_k (fun K1 hK1 => ?_)
    refine e_region (fun R hR => ?_)
    refine e_op H rfl rfl (by decide) (x_assign H rfl rfl) ?_
    clear H a; intro a H
    refine e_nil (hR.out _ _ ?_)
    clear hR R
    refine hK1 _ _ ?_
    clear hK1 K1
    refine wp_seq_k (fun K2 hK2 => ?_)
    refine wp_seq_k (fun K3 hK3 => ?_)
    refine e_region (fun R hR => ?_)
    refine e_op H rfl rfl (by decide) (x_move H rfl rfl) ?_
    clear H a; intro a H
    refine e_op H rfl rfl (by decide) (x_bin H rfl rfl rfl (by rw [eqGuard_at_slice]; rfl) (Lib.run_eql_slice_nil _ _ _ _ _ _ _ _ Try.underlying22)) ?_
    clear H a; intro a H
    refine e_nil (hR.out _ _ ?_)
    clear hR R
    refine hK3 _ _ ?_
    clear hK3 K3
    refine c_false H rfl ?_
    refine wp_skip ?_
    refine hK2 _ _ ?_
    clear hK2 K2
    refine wp_seq_k (fun K4 hK4 => ?_)
    refine e_region (fun R hR => ?_)
    obtain ⟨a1, c1, w1, hr, O, E⟩ := app_new hb hn hz
    refine e_op H rfl rfl (by decide) (x_buildSlice H rfl rfl (bs0 _)) ?_
    clear H a; intro a H
    refine e_op H rfl rfl (by decide) (x_move H rfl rfl) ?_
    clear H a; intro a H
    refine e_op H rfl rfl (by decide) (x_builtin H rfl rfl (fun cs => bi_app hr)) ?_
    clear H a; intro a H
    refine e_op H rfl rfl (by decide) (x_assign H rfl rfl) ?_
    clear H a; intro a H
    refine e_nil (hR.out _ _ ?_)
    clear hR R
    refine hK4 _ _ ?_
    clear hK4 K4
    refine wp_ret ?_
    exact ret1 H rfl rfl ⟨a1, c1, rfl, O, E⟩
  | none =>
    have h0 : n = 0 := by
      rcases Nat.eq_zero_or_pos n with h | h
      · exact h
      · obtain ⟨_, _, e, _⟩ := hb.cell 0 h
        cases e
    subst h0
    obtain rfl : l = [] := List.eq_nil_of_length_eq_zero hb.leng
    refine calls_has (args := [.slice none 0 c]) Try.func110 rfl Try.ntmps110 (Nat.le_of_ble_eq_true rfl) (fun a H => ?_)
    simp only [argl, Nat.reduceAdd] at H
    refine wp_seq_k (fun K1 hK1 => ?_)
    refine e_region (fun R hR => ?_)
    refine e_op H rfl rfl (by decide) (x_assign H rfl rfl) ?_
    clear H a; intro a H
    refine e_nil (hR.out _ _ ?_)
    clear hR R
    refine hK1 _ _ ?_
    clear hK1 K1
    refine wp_seq_k (fun K2 hK2 => ?_)
    refine wp_seq_k (fun K3 hK3 => ?_)
    refine e_region (fun R hR => ?_)
    refine e_op H rfl rfl (by decide) (x_move H rfl rfl) ?_
    clear H a; intro a H
    refine e_op H rfl rfl (by decide) (x_bin H rfl rfl rfl (by rw [eqGuard_at_slice]; rfl) (Lib.run_eql_slice_nil _ _ _ _ _ _ _ _ Try.underlying22)) ?_
    clear H a; intro a H
    refine e_nil (hR.out _ _ ?_)
    clear hR R
    refine hK3 _ _ ?_
    clear hK3 K3
    refine c_true H rfl ?_
    refine wp_seq_k (fun K4 hK4 => ?_)
    refine e_region (fun R hR => ?_)
    refine e_op H rfl rfl (by decide) (x_assign H rfl rfl) ?_
    clear H a; intro a H
    refine e_nil (hR.out _ _ ?_)
    clear hR R
    refine hK4 _ _ ?_
    clear hK4 K4
    refine wp_ret ?_
    refine t_ret ?_
    exact ret1 H rfl rfl ⟨none, 0, rfl, ow_nil _ _, Ext.refl _⟩
theorem equal_any (a1 : Option Addr) (n1 c1 : Nat) (l : List UInt8) (a2 : Option Addr) (n2 c2 : Nat) (r : List UInt8) (w0 : World) (h1 : Bs w0 a1 n1 l) (h2 : Bs w0 a2 n2 r) :
    Calls Try.prog 114 #[.slice a1 n1 c1, .slice a2 n2 c2] w0 fun e w' => e = .returned (.bool (decide (l = r))) ∧ w' = w0 := by
  refine calls_has (args := [.slice a1 n1 c1, .slice a2 n2 c2]) Try.func114 rfl Try.ntmps114 (Nat.le_of_ble_eq_true rfl) (fun a H => ?_)
  simp only [argl, Nat.reduceAdd] at H
  refine wp_seq_k (fun K1 hK1 => ?_)
  refine e_region (fun R hR => ?_)
  refine e_op H rfl rfl (by decide) (x_assign H rfl rfl) ?_
  clear H a; intro a H
  refine e_nil (hR.out _ _ ?_)
  clear hR R
  refine hK1 _ _ ?_
  clear hK1 K1
  refine wp_seq_k (fun K2 hK2 => ?_)
  refine e_region (fun R hR => ?_)
  refine e_op H rfl rfl (by decide) (x_move H rfl rfl) ?_
  clear H a; intro a H
  refine e_op H rfl rfl (by decide) (x_conv H rfl rfl (conv_bsR h1)) ?_
  clear H a; intro a H
  refine e_op H rfl rfl (by decide) (x_move H rfl rfl) ?_
  clear H a; intro a H
  refine e_op H rfl rfl (by decide) (x_conv H rfl rfl (conv_bsR h2)) ?_
  clear H a; intro a H
  refine e_op H rfl rfl (by decide) (x_bin H rfl rfl rfl eqg9 eql9d) ?_
  clear H a; intro a H
  refine e_op H rfl rfl (by decide) (x_assign H rfl rfl) ?_
  clear H a; intro a H
  refine e_nil (hR.out _ _ ?_)
  clear hR R
  refine hK2 _ _ ?_
  clear hK2 K2
  refine wp_ret ?_
  exact ret1 H rfl rfl ⟨rfl, rfl⟩
theorem tsum_any (ad : Option Addr) (n c : Nat) (l : List UInt8) (w0 : World) (hb : Bs w0 ad n l) (hn : n ≤ 140737488351232) :
    Calls Try.prog 137 #[.slice ad n c] w0 fun e w' => e = .returned (.int .u32 ((tcrc l).toNat : Int)) ∧ w' = w0 := by
  have hl := hb.leng
  subst hl
  refine calls_has (args := [.slice ad l.length c]) Try.func137 rfl Try.ntmps137 (Nat.le_of_ble_eq_true rfl) (fun a H => ?_)
  simp only [argl, Nat.reduceAdd] at H
  refine wp_seq_k (fun K1 hK1 => ?_)
  refine e_region (fun R hR => ?_)
  refine e_op H rfl rfl (by decide) (x_assign H rfl rfl) ?_
  clear H a; intro a H
  refine e_nil (hR.out _ _ ?_)
  clear hR R
  refine hK1 _ _ ?_
  clear hK1 K1
  refine wp_seq_k (fun K2 hK2 => ?_)
  refine e_region (fun R hR => ?_)
  refine e_op H rfl rfl (by decide) (x_assign H rfl rfl) ?_
  clear H a; intro a H
  refine e_nil (hR.out _ _ ?_)
  clear hR R
  refine hK2 _ _ ?_
  clear hK2 K2
  refine wp_seq_k (fun K3 hK3 => ?_)
  refine wp_seq_k (fun K4 hK4 => ?_)
  refine e_region (fun R hR => ?_)
  refine e_op H rfl rfl (by decide) (x_move H rfl rfl) ?_
  clear H a; intro a H
  refine e_op H rfl rfl (by decide) (x_builtin H rfl rfl (fun cs => len_sl Try.underlying22)) ?_
  clear H a; intro a H
  refine e_op H rfl rfl (by decide) (x_move H rfl rfl) ?_
  clear H a; intro a H
  refine e_nil (hR.out _ _ ?_)
  clear hR R
  refine hK4 _ _ ?_
  clear hK4 K4
  refine wp_block ?_
  refine wp_loop_ghost (fun n a w => ∃ i, i ≤ l.length ∧ n = l.length - i ∧ Has a 31 [(3, .int .u32 ((feed tmask ones (bitsL (l.take i))).toNat : Int)), (7, .slice ad l.length c), (8, .int .i64 (l.length : Int)), (9, .int .i64 (i : Int))] ∧ w0 = w) (l.length) ?_ ?_
  · skip
    exact ⟨0, by omega, rfl, H.sub ⟨rfl, rfl, rfl, rfl, trivial⟩, rfl⟩
  · skip
    clear H
    intro n a w hI
    obtain ⟨i, hi, rfl, H, rfl⟩ := hI
    rcases (show i < l.length ∨ i = l.length by omega) with hlt | rfl
    · skip
      obtain ⟨b, off, had, hcell⟩ := hb.cell i hlt
      rw [had] at H
      refine wp_seq_k (fun K5 hK5 => ?_)
      refine e_region (fun R hR => ?_)
      refine e_op H rfl rfl (by decide) (x_binI H rfl rfl rfl (b_lss (b := true) (dec_t (by omega)))) ?_
      clear H a; intro a H
      refine e_nil (hR.out _ _ ?_)
      clear hR R
      refine hK5 _ _ ?_
      clear hK5 K5
      refine wp_seq_k (fun K6 hK6 => ?_)
      refine c_true H rfl ?_
      refine wp_skip ?_
      refine hK6 _ _ ?_
      clear hK6 K6
      refine wp_seq_k (fun K7 hK7 => ?_)
      refine wp_block ?_
      refine wp_seq_k (fun K8 hK8 => ?_)
      refine e_region (fun R hR => ?_)
      refine e_op H rfl rfl (by decide) (x_indexAddr H rfl rfl rfl (i_sl (m := i) Try.underlying22 Try.sizeOf5 rfl hlt)) ?_
      clear H a; intro a H
      refine e_op H rfl rfl (by decide) (x_load H rfl rfl (l_cell Try.isAgg5 (hcell))) ?_
      clear H a; intro a H
      refine e_op H rfl rfl (by decide) (x_assign H rfl rfl) ?_
      clear H a; intro a H
      refine e_nil (hR.out _ _ ?_)
      clear hR R
      refine hK8 _ _ ?_
      clear hK8 K8
      refine wp_seq_k (fun K9 hK9 => ?_)
      refine e_region (fun R hR => ?_)
      refine e_op H rfl rfl (by decide) (x_move H rfl rfl) ?_
      clear H a; intro a H
      refine e_op H rfl rfl (by decide) (x_move H rfl rfl) ?_
      clear H a; intro a H
      refine e_op H rfl rfl (by decide) (x_conv H rfl rfl (c_int (z := ((zx (l[i]?.getD 0)).toNat : Int)) Try.underlying5 Try.underlying52 (by rw [nb_zx, wrap_nat]))) ?_
      clear H a; intro a H
      refine e_op H rfl rfl (by decide) (x_binI H rfl rfl rfl (b_xor (z := (((feed tmask ones (bitsL (l.take i))) ^^^ zx (l[i]?.getD 0)).toNat : Int)) (xor_u32 _ _))) ?_
      clear H a; intro a H
      refine e_op H rfl rfl (by decide) (x_assign H rfl rfl) ?_
      clear H a; intro a H
      refine e_nil (hR.out _ _ ?_)
      clear hR R
      refine hK9 _ _ ?_
      clear hK9 K9
      refine wp_seq_k (fun K10 hK10 => ?_)
      refine e_region (fun R hR => ?_)
      refine e_op H rfl rfl (by decide) (x_move H rfl rfl) ?_
      clear H a; intro a H
      refine e_nil (hR.out _ _ ?_)
      clear hR R
      refine hK10 _ _ ?_
      clear hK10 K10
      refine wp_block ?_
      refine wp_loop_ghost (fun n a w => ∃ k, k ≤ 8 ∧ n = 8 - k ∧ Has a 31 [(3, .int .u32 ((grnd tmask ((feed tmask ones (bitsL (l.take i))) ^^^ zx (l[i]?.getD 0)) k).toNat : Int)), (7, .slice (some ⟨b, off, none⟩) l.length c), (8, .int .i64 (l.length : Int)), (9, .int .i64 (i : Int)), (17, .int .i64 (k : Int))] ∧ w0 = w) (8) ?_ ?_
      · skip
        have h0 : (grnd tmask ((feed tmask ones (bitsL (l.take i))) ^^^ zx (l[i]?.getD 0)) 0) = ((feed tmask ones (bitsL (l.take i))) ^^^ zx (l[i]?.getD 0)) := rfl
        rw [← h0] at H
        exact ⟨0, by omega, rfl, H.sub ⟨rfl, rfl, rfl, rfl, rfl, trivial⟩, rfl⟩
      · skip
        clear H
        intro n a w hI
        obtain ⟨k, hk, rfl, H, rfl⟩ := hI
        rcases (show (k < 8 ∧ (grnd tmask ((feed tmask ones (bitsL (l.take i))) ^^^ zx (l[i]?.getD 0)) k).getLsbD 0 = true) ∨ (k < 8 ∧ (grnd tmask ((feed tmask ones (bitsL (l.take i))) ^^^ zx (l[i]?.getD 0)) k).getLsbD 0 = false) ∨ k = 8 by cases (grnd tmask ((feed tmask ones (bitsL (l.take i))) ^^^ zx (l[i]?.getD 0)) k).getLsbD 0 <;> simp <;> omega) with ⟨hlt2, hbit⟩ | ⟨hlt2, hbit⟩ | rfl
        · skip
          skip
          refine wp_seq_k (fun K11 hK11 => ?_)
          refine e_region (fun R hR => ?_)
          refine e_op H rfl rfl (by decide) (x_binI H rfl rfl rfl (b_lss (b := true) (dec_t (by omega)))) ?_
          clear H a; intro a H
          refine e_nil (hR.out _ _ ?_)
          clear hR R
          refine hK11 _ _ ?_
          clear hK11 K11
          refine wp_seq_k (fun K12 hK12 => ?_)
          refine c_true H rfl ?_
          refine wp_skip ?_
          refine hK12 _ _ ?_
          clear hK12 K12
          refine wp_seq_k (fun K13 hK13 => ?_)
          refine wp_block ?_
          refine wp_seq_k (fun K14 hK14 => ?_)
          refine e_region (fun R hR => ?_)
          refine e_op H rfl rfl (by decide) (x_move H rfl rfl) ?_
          clear H a; intro a H
          refine e_op H rfl rfl (by decide) (x_binI H rfl rfl rfl (b_and (z := (if (grnd tmask ((feed tmask ones (bitsL (l.take i))) ^^^ zx (l[i]?.getD 0)) k).getLsbD 0 then 1 else 0)) (and1_u32 _))) ?_
          clear H a; intro a H
          refine e_op H rfl rfl (by decide) (x_assign H rfl rfl) ?_
          clear H a; intro a H
          refine e_nil (hR.out _ _ ?_)
          clear hR R
          refine hK14 _ _ ?_
          clear hK14 K14
          refine wp_seq_k (fun K15 hK15 => ?_)
          refine e_region (fun R hR => ?_)
          refine e_op H rfl rfl (by decide) (x_move H rfl rfl) ?_
          clear H a; intro a H
          refine e_op H rfl rfl (by decide) (x_binI H rfl rfl rfl (b_shr (z := ((half (grnd tmask ((feed tmask ones (bitsL (l.take i))) ^^^ zx (l[i]?.getD 0)) k)).toNat : Int)) (by decide) (half_u32 _))) ?_
          clear H a; intro a H
          refine e_op H rfl rfl (by decide) (x_assign H rfl rfl) ?_
          clear H a; intro a H
          refine e_nil (hR.out _ _ ?_)
          clear hR R
          refine hK15 _ _ ?_
          clear hK15 K15
          refine wp_seq_k (fun K16 hK16 => ?_)
          refine e_region (fun R hR => ?_)
          refine e_op H rfl rfl (by decide) (x_move H rfl rfl) ?_
          clear H a; intro a H
          refine e_op H rfl rfl (by decide) (x_binI H rfl rfl rfl (b_neq (b := true) (by rw [hbit]; rfl))) ?_
          clear H a; intro a H
          refine e_nil (hR.out _ _ ?_)
          clear hR R
          refine hK16 _ _ ?_
          clear hK16 K16
          refine c_true H rfl ?_
          refine e_region (fun R hR => ?_)
          refine e_op H rfl rfl (by decide) (x_move H rfl rfl) ?_
          clear H a; intro a H
          refine e_op H rfl rfl (by decide) (x_binI H rfl rfl rfl (b_xor (z := ((half (grnd tmask ((feed tmask ones (bitsL (l.take i))) ^^^ zx (l[i]?.getD 0)) k) ^^^ tmask).toNat : Int)) (xor_u32 _ tmask))) ?_
          clear H a; intro a H
          refine e_op H rfl rfl (by decide) (x_assign H rfl rfl) ?_
          clear H a; intro a H
          refine e_nil (hR.out _ _ ?_)
          clear hR R
          refine hK13 _ _ ?_
          clear hK13 K13
          refine e_region (fun R hR => ?_)
          refine e_op H rfl rfl (by decide) (x_binI H rfl rfl rfl (b_add (z := ((k + 1 : Nat) : Int)) (by rw [IntKind.wrap_i64]; omega))) ?_
          clear H a; intro a H
          refine e_op H rfl rfl (by decide) (x_move H rfl rfl) ?_
          clear H a; intro a H
          refine e_nil (hR.out _ _ ?_)
          clear hR R
          have hg : (grnd tmask ((feed tmask ones (bitsL (l.take i))) ^^^ zx (l[i]?.getD 0)) (k + 1)) = half (grnd tmask ((feed tmask ones (bitsL (l.take i))) ^^^ zx (l[i]?.getD 0)) k) ^^^ tmask := by rw [grnd_succ]; unfold gbit half; rw [hbit]; rfl
          rw [← hg] at H
          exact ⟨8 - (k + 1), by omega, k + 1, by omega, rfl, H.sub ⟨rfl, rfl, rfl, rfl, rfl, trivial⟩, rfl⟩
        · skip
          skip
          refine wp_seq_k (fun K17 hK17 => ?_)
          refine e_region (fun R hR => ?_)
          refine e_op H rfl rfl (by decide) (x_binI H rfl rfl rfl (b_lss (b := true) (dec_t (by omega)))) ?_
          clear H a; intro a H
          refine e_nil (hR.out _ _ ?_)
          clear hR R
          refine hK17 _ _ ?_
          clear hK17 K17
          refine wp_seq_k (fun K18 hK18 => ?_)
          refine c_true H rfl ?_
          refine wp_skip ?_
          refine hK18 _ _ ?_
          clear hK18 K18
          refine wp_seq_k (fun K19 hK19 => ?_)
          refine wp_block ?_
          refine wp_seq_k (fun K20 hK20 => ?_)
          refine e_region (fun R hR => ?_)
          refine e_op H rfl rfl (by decide) (x_move H rfl rfl) ?_
          clear H a; intro a H
          refine e_op H rfl rfl (by decide) (x_binI H rfl rfl rfl (b_and (z := (if (grnd tmask ((feed tmask ones (bitsL (l.take i))) ^^^ zx (l[i]?.getD 0)) k).getLsbD 0 then 1 else 0)) (and1_u32 _))) ?_
          clear H a; intro a H
          refine e_op H rfl rfl (by decide) (x_assign H rfl rfl) ?_
          clear H a; intro a H
          refine e_nil (hR.out _ _ ?_)
          clear hR R
          refine hK20 _ _ ?_
          clear hK20 K20
          refine wp_seq_k (fun K21 hK21 => ?_)
          refine e_region (fun R hR => ?_)
          refine e_op H rfl rfl (by decide) (x_move H rfl rfl) ?_
          clear H a; intro a H
          refine e_op H rfl rfl (by decide) (x_binI H rfl rfl rfl (b_shr (z := ((half (grnd tmask ((feed tmask ones (bitsL (l.take i))) ^^^ zx (l[i]?.getD 0)) k)).toNat : Int)) (by decide) (half_u32 _))) ?_
          clear H a; intro a H
          refine e_op H rfl rfl (by decide) (x_assign H rfl rfl) ?_
          clear H a; intro a H
          refine e_nil (hR.out _ _ ?_)
          clear hR R
          refine hK21 _ _ ?_
          clear hK21 K21
          refine wp_seq_k (fun K22 hK22 => ?_)
          refine e_region (fun R hR => ?_)
          refine e_op H rfl rfl (by decide) (x_move H rfl rfl) ?_
          clear H a; intro a H
          refine e_op H rfl rfl (by decide) (x_binI H rfl rfl rfl (b_neq (b := false) (by rw [hbit]; rfl))) ?_
          clear H a; intro a H
          refine e_nil (hR.out _ _ ?_)
          clear hR R
          refine hK22 _ _ ?_
          clear hK22 K22
          refine c_false H rfl ?_
          refine wp_skip ?_
          refine hK19 _ _ ?_
          clear hK19 K19
          refine e_region (fun R hR => ?_)
          refine e_op H rfl rfl (by decide) (x_binI H rfl rfl rfl (b_add (z := ((k + 1 : Nat) : Int)) (by rw [IntKind.wrap_i64]; omega))) ?_
          clear H a; intro a H
          refine e_op H rfl rfl (by decide) (x_move H rfl rfl) ?_
          clear H a; intro a H
          refine e_nil (hR.out _ _ ?_)
          clear hR R
          have hg : (grnd tmask ((feed tmask ones (bitsL (l.take i))) ^^^ zx (l[i]?.getD 0)) (k + 1)) = half (grnd tmask ((feed tmask ones (bitsL (l.take i))) ^^^ zx (l[i]?.getD 0)) k) := by rw [grnd_succ]; unfold gbit half; rw [hbit]; rfl
          rw [← hg] at H
          exact ⟨8 - (k + 1), by omega, k + 1, by omega, rfl, H.sub ⟨rfl, rfl, rfl, rfl, rfl, trivial⟩, rfl⟩
        · skip
          skip
          refine wp_seq_k (fun K23 hK23 => ?_)
          refine e_region (fun R hR => ?_)
          refine e_op H rfl rfl (by decide) (x_binI H rfl rfl rfl (b_lss (b := false) (dec_f (by omega)))) ?_
          clear H a; intro a H
          refine e_nil (hR.out _ _ ?_)
          clear hR R
          refine hK23 _ _ ?_
          clear hK23 K23
          refine wp_seq_k (fun K24 hK24 => ?_)
          refine c_false H rfl ?_
          refine wp_exit ?_
          refine t_exit ?_
          refine t_exit ?_
          refine b_hit ?_
          clear hK24 K24
          refine hK7 _ _ ?_
          clear hK7 K7
          refine e_region (fun R hR => ?_)
          refine e_op H rfl rfl (by decide) (x_binI H rfl rfl rfl (b_add (z := ((i + 1 : Nat) : Int)) (by rw [IntKind.wrap_i64]; omega))) ?_
          clear H a; intro a H
          refine e_op H rfl rfl (by decide) (x_move H rfl rfl) ?_
          clear H a; intro a H
          refine e_nil (hR.out _ _ ?_)
          clear hR R
          rw [← feed_take tmask ones l i (by omega), ← had] at H
          exact ⟨l.length - (i + 1), by omega, i + 1, by omega, rfl, H.sub ⟨rfl, rfl, rfl, rfl, trivial⟩, rfl⟩
    · skip
      skip
      refine wp_seq_k (fun K25 hK25 => ?_)
      refine e_region (fun R hR => ?_)
      refine e_op H rfl rfl (by decide) (x_binI H rfl rfl rfl (b_lss (b := false) (dec_f (by omega)))) ?_
      clear H a; intro a H
      refine e_nil (hR.out _ _ ?_)
      clear hR R
      refine hK25 _ _ ?_
      clear hK25 K25
      refine wp_seq_k (fun K26 hK26 => ?_)
      refine c_false H rfl ?_
      refine wp_exit ?_
      refine t_exit ?_
      refine t_exit ?_
      refine b_hit ?_
      clear hK26 K26
      refine hK3 _ _ ?_
      clear hK3 K3
      refine wp_seq_k (fun K27 hK27 => ?_)
      refine e_region (fun R hR => ?_)
      refine e_op H rfl rfl (by decide) (x_move H rfl rfl) ?_
      clear H a; intro a H
      refine e_op H rfl rfl (by decide) (x_un H rfl rfl (u_xor (z := ((tcrc l).toNat : Int)) (by rw [List.take_length]; exact flip_u32' _))) ?_
      clear H a; intro a H
      refine e_op H rfl rfl (by decide) (x_assign H rfl rfl) ?_
      clear H a; intro a H
      refine e_nil (hR.out _ _ ?_)
      clear hR R
      refine hK27 _ _ ?_
      clear hK27 K27
      refine wp_ret ?_
      exact ret1 H rfl rfl ⟨rfl, rfl⟩
theorem le32_vals (x : BitVec 32) : (#[.int .u8 ((x.toNat % 256 : Nat) : Int), .int .u8 ((x.toNat / 256 % 256 : Nat) : Int), .int .u8 ((x.toNat / 65536 % 256 : Nat) : Int), .int .u8 ((x.toNat / 16777216 % 256 : Nat) : Int)] : Array Value).toList = u8s (le32 x) := by
  have hx := x.isLt
  have h4 : x.toNat / 16777216 = x.toNat / 16777216 % 256 := by omega
  unfold le32 u8s
  rw [h4]
  simp only [List.map_cons, List.map_nil]
  rw [u8_ofNat _ (by omega), u8_ofNat _ (by omega), u8_ofNat _ (by omega), u8_ofNat _ (by omega)]
  simp
theorem seal_any (B : Nat) (ad : Option Addr) (n c : Nat) (l : List UInt8) (w0 : World) (ho : Ow w0 B ad n c l) (hn : n ≤ 140737488351232) (hB : B ≤ w0.heap.size) :
    Calls Try.prog 115 #[.slice ad n c] w0 fun e w' => ∃ a c', e = .returned (.slice a (n + 4) c') ∧ Ow w' B a (n + 4) c' (tseal l) ∧ w0.grownBy w' (Value.slice ad n c).ownBlock := by
  have hl := ho.leng
  subst hl
  have hlt := (tcrc l).isLt
  refine calls_has (args := [.slice ad l.length c]) Try.func115 rfl Try.ntmps115 (Nat.le_of_ble_eq_true rfl) (fun a H => ?_)
  simp only [argl, Nat.reduceAdd] at H
  refine wp_seq_k (fun K1 hK1 => ?_)
  refine e_region (fun R hR => ?_)
  refine e_op H rfl rfl (by decide) (x_assign H rfl rfl) ?_
  clear H a; intro a H
  refine e_nil (hR.out _ _ ?_)
  clear hR R
  refine hK1 _ _ ?_
  clear hK1 K1
  refine wp_seq_k (fun K2 hK2 => ?_)
  refine e_region (fun R hR => ?_)
  refine e_op H rfl rfl (by decide) (x_move H rfl rfl) ?_
  clear H a; intro a H
  refine e_callp H rfl rfl (by decide) rfl rfl (Try.call137 _) (tsum_any ad l.length c l w0 ho.bs hn) ?_
  clear H a; intro a H
  refine e_op H rfl rfl (by decide) (x_assign H rfl rfl) ?_
  clear H a; intro a H
  refine e_nil (hR.out _ _ ?_)
  clear hR R
  refine hK2 _ _ ?_
  clear hK2 K2
  refine wp_seq_k (fun K3 hK3 => ?_)
  refine e_region (fun R hR => ?_)
  refine e_op H rfl rfl (by decide) (x_move H rfl rfl) ?_
  clear H a; intro a H
  refine e_op H rfl rfl (by decide) (x_move H rfl rfl) ?_
  clear H a; intro a H
  refine e_op H rfl rfl (by decide) (x_conv H rfl rfl (c_int (z := (((tcrc l).toNat % 256 : Nat) : Int)) Try.underlying52 Try.underlying5 (by rw [IntKind.wrap_u8]; omega))) ?_
  clear H a; intro a H
  refine e_op H rfl rfl (by decide) (x_move H rfl rfl) ?_
  clear H a; intro a H
  refine e_op H rfl rfl (by decide) (x_binI H rfl rfl rfl (b_shr (z := (((tcrc l).toNat / 256 : Nat) : Int)) (by decide) (by show ((tcrc l).toNat : Int) / (256 : Int) = _; omega))) ?_
  clear H a; intro a H
  refine e_op H rfl rfl (by decide) (x_conv H rfl rfl (c_int (z := (((tcrc l).toNat / 256 % 256 : Nat) : Int)) Try.underlying52 Try.underlying5 (by rw [IntKind.wrap_u8]; omega))) ?_
  clear H a; intro a H
  refine e_op H rfl rfl (by decide) (x_move H rfl rfl) ?_
  clear H a; intro a H
  refine e_op H rfl rfl (by decide) (x_binI H rfl rfl rfl (b_shr (z := (((tcrc l).toNat / 65536 : Nat) : Int)) (by decide) (by show ((tcrc l).toNat : Int) / (65536 : Int) = _; omega))) ?_
  clear H a; intro a H
  refine e_op H rfl rfl (by decide) (x_conv H rfl rfl (c_int (z := (((tcrc l).toNat / 65536 % 256 : Nat) : Int)) Try.underlying52 Try.underlying5 (by rw [IntKind.wrap_u8]; omega))) ?_
  clear H a; intro a H
  refine e_op H rfl rfl (by decide) (x_move H rfl rfl) ?_
  clear H a; intro a H
  refine e_op H rfl rfl (by decide) (x_binI H rfl rfl rfl (b_shr (z := (((tcrc l).toNat / 16777216 : Nat) : Int)) (by decide) (by show ((tcrc l).toNat : Int) / (16777216 : Int) = _; omega))) ?_
  clear H a; intro a H
  refine e_op H rfl rfl (by decide) (x_conv H rfl rfl (c_int (z := (((tcrc l).toNat / 16777216 % 256 : Nat) : Int)) Try.underlying52 Try.underlying5 (by rw [IntKind.wrap_u8]; omega))) ?_
  clear H a; intro a H
  obtain ⟨a1, c1, w1, hr, O, G⟩ := run_app (w0.alloc (.cells #[.int .u8 (((tcrc l).toNat % 256 : Nat) : Int), .int .u8 (((tcrc l).toNat / 256 % 256 : Nat) : Int), .int .u8 (((tcrc l).toNat / 65536 % 256 : Nat) : Int), .int .u8 (((tcrc l).toNat / 16777216 % 256 : Nat) : Int)] 5)) 22 B ad l.length c l (some ⟨w0.heap.size, 0, none⟩) 4 4 (le32 (tcrc l)) (row_al ho _) (Bs.new w0 _ 4 _ rfl (le32_vals _)) (by omega) (by rw [World.size_alloc]; omega) (fun h => by cases h)
  refine e_op H rfl rfl (by decide) (x_buildSlice H rfl rfl (bs4 _ _ _ _ _)) ?_
  clear H a; intro a H
  refine e_op H rfl rfl (by decide) (x_builtin H rfl rfl (fun cs => bi_app hr)) ?_
  clear H a; intro a H
  refine e_op H rfl rfl (by decide) (x_assign H rfl rfl) ?_
  clear H a; intro a H
  refine e_nil (hR.out _ _ ?_)
  clear hR R
  refine hK3 _ _ ?_
  clear hK3 K3
  refine wp_ret ?_
  refine ret1 H rfl rfl ⟨a1, c1, rfl, O, ?_⟩
  have G0 := World.grownBy_alloc w0 (.cells #[.int .u8 (((tcrc l).toNat % 256 : Nat) : Int), .int .u8 (((tcrc l).toNat / 256 % 256 : Nat) : Int), .int .u8 (((tcrc l).toNat / 65536 % 256 : Nat) : Int), .int .u8 (((tcrc l).toNat / 16777216 % 256 : Nat) : Int)] 5) (Value.slice ad l.length c).ownBlock
  exact ⟨G.os.trans G0.os, G.tape.trans G0.tape, G.output.trans G0.output, Nat.le_trans G0.size G.size, fun k hk hne => (G.block k (Nat.lt_of_lt_of_le hk G0.size) hne).trans (G0.block k hk hne)⟩
end Go.Proofs.Ytknllmcpogoeoaa
