/- bytes.Repeat of one byte, DigestLong, walked. -/
import Derived.Test.YtknllmcpogoeoaaDoorL5
import Derived.Lib.MakeNoZero
namespace Go.Proofs.YtknllmcpogoeoaaDoor
open Go.RowKit
set_option linter.unusedVariables false
set_option linter.unusedSimpArgs false
set_option maxRecDepth 100000
theorem and_low_fin : ∀ m : Fin 1500, bits .and .u64 (m.val : Int) 4294967295 = (m.val : Int) := by decide +kernel
theorem and_low {m : Nat} (h : m < 1500) : bits .and .u64 (m : Int) 4294967295 = (m : Int) := and_low_fin ⟨m, h⟩
theorem shr_low {m : Nat} (h : m < 1500) : (m : Int) / 2 ^ min (Int.toNat 32) IntKind.u64.bits = 0 := by
  rw [show (2 : Int) ^ min (Int.toNat 32) IntKind.u64.bits = 4294967296 by decide +kernel]; omega
theorem and_one : bits .and .u64 1 4294967295 = 1 := by decide +kernel
theorem and_nil : bits .and .u64 0 4294967295 = 0 := by decide +kernel
section
variable {P : Program} {a : Act} {N : Nat} {l : List (Nat × Value)} {w w' : World} {o : Oper} {v : Value} {t : TypeId} {i j : Int}
theorem x_slice3 (H : Has a N l) {x hi mx : Operand} {vx vh vm : Value} (ho : o.op = .slice t x none (some hi) (some mx)) (ex : ev l x = some vx) (eh : ev l hi = some vh) (em : ev l mx = some vm)
    (h : (Instr.sliceAt t vx none (some vh) (some vm)).run P w = .ok v w) : (execOp a.eval o).run P w = .ok (.value v) w := by
  unfold execOp; rw [ho]; simp only [H.ev ex, H.ev eh, H.ev em, Option.map_none, Option.map_some, Sem.run_bind, Sem.run_pure, Result.andThen_ok, h]
theorem sl_hm {e : TypeId} {a : Option Addr} {n c hi mx : Nat} {q r : IntKind} (hu : P.underlying t = some (.slice e)) (hs : ∀ w, (sizeOf e).run P w = .ok 1 w) (hi1 : i = (hi : Int)) (hj : j = (mx : Int)) (h0 : hi ≤ mx) (h1 : mx ≤ c) :
    (Instr.sliceAt t (.slice a n c) none (some (.int q i)) (some (.int r j))).run P w = .ok (.slice a hi mx) w := by
  have he : P.elem t = e := by simp [Program.elem, hu]
  subst hi1 hj
  rw [run_sliceAt_slice (P := P) w t _ _ _ _ (by rw [he]; exact hu), run_slice_hm (P := P) w t a n c (by rw [he]; exact hu) q r (hi : Int) (mx : Int) (by omega) (by omega) (by omega), he, hs]
  cases a <;> simp [sliced, Addr.add_zero']
end
theorem run52 (w : World) (n : Nat) (hn : n ≤ 1500) : ∃ cs : List Value, (callFunc 52 #[.int .i64 (n : Int)]).run Tryd.prog w = .ok (.value (.slice (some ⟨w.heap.size, 0, none⟩) n cs.length)) (w.drew.drew.alloc (.cells cs.toArray 5)) ∧ n ≤ cs.length ∧ cs.length ≤ maxLen := by
  obtain ⟨cs, hr, h1, h2⟩ := Lib.run_makeNoZero (P := Tryd.prog) w #[3] 22 5 Tryd.underlying22 n (by omega)
  refine ⟨cs.toList, ?_, by simpa using h1, by simpa using h2 (by unfold maxLen; omega)⟩
  rw [run_callFunc_extern (show Tryd.prog.funcs[52]? = some Tryd.f52 by kernel_rfl) (by kernel_rfl) (by kernel_rfl) (by kernel_rfl) (e := Extern.BytealgMakeNoZero.makeNoZero #[3] #[22]) (by kernel_rfl), hr]
  simp
/-- copy into a block of bytes from a place on -/
theorem run_copyG (w : World) (ty : TypeId) {g k dl dc : Nat} {cur : List Value} (h : Blk w g 5 cur) {ax : Option Addr} {m cx d : Nat} {r : List UInt8} (hb : Bs w ax m r) (hd : d = min m dl) (h0 : 0 < d) (hk : k + d ≤ cur.length) :
    (Builtin.copy_ #[22, 22] ty #[.slice (some ⟨g, k, none⟩) dl dc, .slice ax m cx]).run Tryd.prog w = .ok (.int .i64 (d : Int)) (w.setRow g (cur.take k ++ u8s (r.take d) ++ cur.drop (k + d)).toArray) := by
  have hr := hb.leng
  have hsz : (Tryd.prog.info? 5).map (·.size) = some 1 := by
    obtain ⟨i0, hi, hz0, hz1, hz2⟩ := info_parts info5
    rw [hi]; simp [hz1]
  obtain ⟨b, off, rfl, hcell⟩ := hb.at (by omega)
  have e0 : u8s (r.take d) = (u8s r).take d := by simp [u8s, List.map_take]
  rw [e0]
  have hcl : ((u8s r).take d).length = d := by rw [List.length_take, u8s_len, hr]; omega
  have hrun := run_copy_row (P := Tryd.prog) w 22 22 ty 5 g k dl dc ⟨b, off, none⟩ m cx cur.toArray 5 ((u8s r).take d) Tryd.underlying22 hsz h (by rw [hcl, hd])
    (fun j v hv => by
      rw [List.getElem?_take] at hv
      by_cases hj : j < d
      · rw [if_pos hj, u8s_get r j (by omega)] at hv
        rw [Addr.add_lit, hcell j (by omega), hv]
      · rw [if_neg hj] at hv; cases hv) (by rw [hcl]; simp; omega) (fun v hv => u8s_one r v (List.mem_of_mem_take hv))
  rw [hcl] at hrun
  exact hrun
theorem Blk.bsTake {w : World} {g n : Nat} {cur : List Value} {l : List UInt8} (h : Blk w g 5 cur) (ht : cur.take n = u8s l) (hl : l.length = n) : Bs w (some ⟨g, 0, none⟩) n l := by
  refine ⟨hl, fun k hk => ⟨g, 0, rfl, ?_⟩⟩
  rw [Nat.zero_add, h.cell]
  have := congrArg (fun z => z[k]?) ht
  simp only [List.getElem?_take, if_pos hk] at this
  rw [this]
  exact u8s_get l k (by omega)
theorem rep_step {cur : List Value} {bp d : Nat} {x : UInt8} (h : cur.take bp = u8s (List.replicate bp x)) (hd : d ≤ bp) :
    (cur.take bp ++ u8s ((List.replicate bp x).take d) ++ cur.drop (bp + d)).take (bp + d) = u8s (List.replicate (bp + d) x) := by
  rw [h, ← u8s_app, List.take_replicate, Nat.min_eq_left hd, List.replicate_append_replicate, List.take_append_of_le_length (by rw [u8s_len]; simp), List.take_of_length_le (by rw [u8s_len]; simp)]
theorem rep_len {cur : List Value} {bp d : Nat} {r : List UInt8} (hr : r.length = d) (hk : bp + d ≤ cur.length) : (cur.take bp ++ u8s r ++ cur.drop (bp + d)).length = cur.length := by
  simp [u8s_len]; omega
theorem mul64_any (m : Nat) (hm : m < 1500) (w : World) : Calls Tryd.prog 59 #[.int .u64 1, .int .u64 (m : Int)] w fun e w' => e = .returned (.tuple #[.int .u64 0, .int .u64 (m : Int)]) ∧ w' = w := by
  refine calls_has (args := [.int .u64 1, .int .u64 (m : Int)]) Tryd.func59 rfl Tryd.ntmps59 (Nat.le_of_ble_eq_true rfl) (fun a H => ?_)
  simp only [argl, Nat.reduceAdd] at H
  refine wp_seq_k (fun K1 hK1 => ?_)
  refine e_region (fun R hR => ?_)
  refine e_op H rfl rfl (by decide) (x_assign H rfl rfl) ?_
  clear H a; intro a H
  refine e_op H rfl rfl (by decide) (x_assign H rfl rfl) ?_
  clear H a; intro a H
  refine e_nil (hR.out _ _ ?_)
  clear hR R
  refine hK1 _ _ ?_
  clear hK1 K1
  refine wp_seq_k (fun K2 hK2 => ?_)
  refine e_region (fun R hR => ?_)
  refine e_op H rfl rfl (by decide) (x_move H rfl rfl) ?_
  clear H a; intro a H
  refine e_op H rfl rfl (by decide) (x_binI H rfl rfl rfl (b_and (z := 1) (and_one))) ?_
  clear H a; intro a H
  refine e_op H rfl rfl (by decide) (x_assign H rfl rfl) ?_
  clear H a; intro a H
  refine e_nil (hR.out _ _ ?_)
  clear hR R
  refine hK2 _ _ ?_
  clear hK2 K2
  refine wp_seq_k (fun K3 hK3 => ?_)
  refine e_region (fun R hR => ?_)
  refine e_op H rfl rfl (by decide) (x_move H rfl rfl) ?_
  clear H a; intro a H
  refine e_op H rfl rfl (by decide) (x_binI H rfl rfl rfl (b_shr (z := 0) (by decide) (by decide))) ?_
  clear H a; intro a H
  refine e_op H rfl rfl (by decide) (x_assign H rfl rfl) ?_
  clear H a; intro a H
  refine e_nil (hR.out _ _ ?_)
  clear hR R
  refine hK3 _ _ ?_
  clear hK3 K3
  refine wp_seq_k (fun K4 hK4 => ?_)
  refine e_region (fun R hR => ?_)
  refine e_op H rfl rfl (by decide) (x_move H rfl rfl) ?_
  clear H a; intro a H
  refine e_op H rfl rfl (by decide) (x_binI H rfl rfl rfl (b_and (z := (m : Int)) (and_low hm))) ?_
  clear H a; intro a H
  refine e_op H rfl rfl (by decide) (x_assign H rfl rfl) ?_
  clear H a; intro a H
  refine e_nil (hR.out _ _ ?_)
  clear hR R
  refine hK4 _ _ ?_
  clear hK4 K4
  refine wp_seq_k (fun K5 hK5 => ?_)
  refine e_region (fun R hR => ?_)
  refine e_op H rfl rfl (by decide) (x_move H rfl rfl) ?_
  clear H a; intro a H
  refine e_op H rfl rfl (by decide) (x_binI H rfl rfl rfl (b_shr (z := 0) (by decide) (shr_low hm))) ?_
  clear H a; intro a H
  refine e_op H rfl rfl (by decide) (x_assign H rfl rfl) ?_
  clear H a; intro a H
  refine e_nil (hR.out _ _ ?_)
  clear hR R
  refine hK5 _ _ ?_
  clear hK5 K5
  refine wp_seq_k (fun K6 hK6 => ?_)
  refine e_region (fun R hR => ?_)
  refine e_op H rfl rfl (by decide) (x_move H rfl rfl) ?_
  clear H a; intro a H
  refine e_op H rfl rfl (by decide) (x_move H rfl rfl) ?_
  clear H a; intro a H
  refine e_op H rfl rfl (by decide) (x_binI H rfl rfl rfl (b_mul (z := (m : Int)) (by rw [IntKind.wrap_u64]; omega))) ?_
  clear H a; intro a H
  refine e_op H rfl rfl (by decide) (x_assign H rfl rfl) ?_
  clear H a; intro a H
  refine e_nil (hR.out _ _ ?_)
  clear hR R
  refine hK6 _ _ ?_
  clear hK6 K6
  refine wp_seq_k (fun K7 hK7 => ?_)
  refine e_region (fun R hR => ?_)
  refine e_op H rfl rfl (by decide) (x_move H rfl rfl) ?_
  clear H a; intro a H
  refine e_op H rfl rfl (by decide) (x_move H rfl rfl) ?_
  clear H a; intro a H
  refine e_op H rfl rfl (by decide) (x_binI H rfl rfl rfl (b_mul (z := 0) (by rw [IntKind.wrap_u64]; omega))) ?_
  clear H a; intro a H
  refine e_op H rfl rfl (by decide) (x_move H rfl rfl) ?_
  clear H a; intro a H
  refine e_op H rfl rfl (by decide) (x_binI H rfl rfl rfl (b_shr (z := 0) (by decide) (shr_low hm))) ?_
  clear H a; intro a H
  refine e_op H rfl rfl (by decide) (x_binI H rfl rfl rfl (b_add (z := 0) (by decide))) ?_
  clear H a; intro a H
  refine e_op H rfl rfl (by decide) (x_assign H rfl rfl) ?_
  clear H a; intro a H
  refine e_nil (hR.out _ _ ?_)
  clear hR R
  refine hK7 _ _ ?_
  clear hK7 K7
  refine wp_seq_k (fun K8 hK8 => ?_)
  refine e_region (fun R hR => ?_)
  refine e_op H rfl rfl (by decide) (x_move H rfl rfl) ?_
  clear H a; intro a H
  refine e_op H rfl rfl (by decide) (x_binI H rfl rfl rfl (b_and (z := 0) (and_nil))) ?_
  clear H a; intro a H
  refine e_op H rfl rfl (by decide) (x_assign H rfl rfl) ?_
  clear H a; intro a H
  refine e_nil (hR.out _ _ ?_)
  clear hR R
  refine hK8 _ _ ?_
  clear hK8 K8
  refine wp_seq_k (fun K9 hK9 => ?_)
  refine e_region (fun R hR => ?_)
  refine e_op H rfl rfl (by decide) (x_move H rfl rfl) ?_
  clear H a; intro a H
  refine e_op H rfl rfl (by decide) (x_binI H rfl rfl rfl (b_shr (z := 0) (by decide) (by decide))) ?_
  clear H a; intro a H
  refine e_op H rfl rfl (by decide) (x_assign H rfl rfl) ?_
  clear H a; intro a H
  refine e_nil (hR.out _ _ ?_)
  clear hR R
  refine hK9 _ _ ?_
  clear hK9 K9
  refine wp_seq_k (fun K10 hK10 => ?_)
  refine e_region (fun R hR => ?_)
  refine e_op H rfl rfl (by decide) (x_move H rfl rfl) ?_
  clear H a; intro a H
  refine e_op H rfl rfl (by decide) (x_move H rfl rfl) ?_
  clear H a; intro a H
  refine e_op H rfl rfl (by decide) (x_move H rfl rfl) ?_
  clear H a; intro a H
  refine e_op H rfl rfl (by decide) (x_binI H rfl rfl rfl (b_mul (z := 0) (by decide))) ?_
  clear H a; intro a H
  refine e_op H rfl rfl (by decide) (x_binI H rfl rfl rfl (b_add (z := 0) (by decide))) ?_
  clear H a; intro a H
  refine e_op H rfl rfl (by decide) (x_assign H rfl rfl) ?_
  clear H a; intro a H
  refine e_nil (hR.out _ _ ?_)
  clear hR R
  refine hK10 _ _ ?_
  clear hK10 K10
  refine wp_seq_k (fun K11 hK11 => ?_)
  refine e_region (fun R hR => ?_)
  refine e_op H rfl rfl (by decide) (x_move H rfl rfl) ?_
  clear H a; intro a H
  refine e_op H rfl rfl (by decide) (x_move H rfl rfl) ?_
  clear H a; intro a H
  refine e_op H rfl rfl (by decide) (x_binI H rfl rfl rfl (b_mul (z := 0) (by decide))) ?_
  clear H a; intro a H
  refine e_op H rfl rfl (by decide) (x_move H rfl rfl) ?_
  clear H a; intro a H
  refine e_op H rfl rfl (by decide) (x_binI H rfl rfl rfl (b_add (z := 0) (by decide))) ?_
  clear H a; intro a H
  refine e_op H rfl rfl (by decide) (x_move H rfl rfl) ?_
  clear H a; intro a H
  refine e_op H rfl rfl (by decide) (x_binI H rfl rfl rfl (b_shr (z := 0) (by decide) (by decide))) ?_
  clear H a; intro a H
  refine e_op H rfl rfl (by decide) (x_binI H rfl rfl rfl (b_add (z := 0) (by decide))) ?_
  clear H a; intro a H
  refine e_op H rfl rfl (by decide) (x_assign H rfl rfl) ?_
  clear H a; intro a H
  refine e_nil (hR.out _ _ ?_)
  clear hR R
  refine hK11 _ _ ?_
  clear hK11 K11
  refine wp_seq_k (fun K12 hK12 => ?_)
  refine e_region (fun R hR => ?_)
  refine e_op H rfl rfl (by decide) (x_move H rfl rfl) ?_
  clear H a; intro a H
  refine e_op H rfl rfl (by decide) (x_move H rfl rfl) ?_
  clear H a; intro a H
  refine e_op H rfl rfl (by decide) (x_binI H rfl rfl rfl (b_mul (z := (m : Int)) (by rw [IntKind.wrap_u64]; omega))) ?_
  clear H a; intro a H
  refine e_op H rfl rfl (by decide) (x_assign H rfl rfl) ?_
  clear H a; intro a H
  refine e_nil (hR.out _ _ ?_)
  clear hR R
  refine hK12 _ _ ?_
  clear hK12 K12
  refine wp_ret ?_
  exact ret2 H rfl rfl rfl ⟨rfl, rfl⟩
theorem mul_any (m : Nat) (hm : m < 1500) (w : World) : Calls Tryd.prog 51 #[.int .u64 1, .int .u64 (m : Int)] w fun e w' => e = .returned (.tuple #[.int .u64 0, .int .u64 (m : Int)]) ∧ w' = w := by
  refine calls_has (args := [.int .u64 1, .int .u64 (m : Int)]) Tryd.func51 rfl Tryd.ntmps51 (Nat.le_of_ble_eq_true rfl) (fun a H => ?_)
  simp only [argl, Nat.reduceAdd] at H
  refine wp_seq_k (fun K1 hK1 => ?_)
  refine e_region (fun R hR => ?_)
  refine e_op H rfl rfl (by decide) (x_assign H rfl rfl) ?_
  clear H a; intro a H
  refine e_op H rfl rfl (by decide) (x_assign H rfl rfl) ?_
  clear H a; intro a H
  refine e_nil (hR.out _ _ ?_)
  clear hR R
  refine hK1 _ _ ?_
  clear hK1 K1
  refine wp_seq_k (fun K2 hK2 => ?_)
  refine c_false H rfl ?_
  refine wp_skip ?_
  refine hK2 _ _ ?_
  clear hK2 K2
  refine wp_seq_k (fun K3 hK3 => ?_)
  refine e_region (fun R hR => ?_)
  refine e_op H rfl rfl (by decide) (x_move H rfl rfl) ?_
  clear H a; intro a H
  refine e_op H rfl rfl (by decide) (x_move H rfl rfl) ?_
  clear H a; intro a H
  refine e_callq H rfl rfl (by decide) rfl rfl (Tryd.call59 _) (mul64_any m hm _) ?_
  clear H a
  rintro e w1 ⟨rfl, rfl⟩
  refine ⟨_, rfl, fun a H => ?_⟩
  refine e_op H rfl rfl (by decide) (x_move H rfl rfl) ?_
  clear H a; intro a H
  refine e_op H rfl rfl (by decide) (x_extract H rfl rfl rfl) ?_
  clear H a; intro a H
  refine e_op H rfl rfl (by decide) (x_extract H rfl rfl rfl) ?_
  clear H a; intro a H
  refine e_op H rfl rfl (by decide) (x_assign H rfl rfl) ?_
  clear H a; intro a H
  refine e_op H rfl rfl (by decide) (x_assign H rfl rfl) ?_
  clear H a; intro a H
  refine e_nil (hR.out _ _ ?_)
  clear hR R
  refine hK3 _ _ ?_
  clear hK3 K3
  refine wp_seq_k (fun K4 hK4 => ?_)
  refine e_region (fun R hR => ?_)
  refine e_op H rfl rfl (by decide) (x_move H rfl rfl) ?_
  clear H a; intro a H
  refine e_op H rfl rfl (by decide) (x_move H rfl rfl) ?_
  clear H a; intro a H
  refine e_op H rfl rfl (by decide) (x_assign H rfl rfl) ?_
  clear H a; intro a H
  refine e_op H rfl rfl (by decide) (x_assign H rfl rfl) ?_
  clear H a; intro a H
  refine e_nil (hR.out _ _ ?_)
  clear hR R
  refine hK4 _ _ ?_
  clear hK4 K4
  refine wp_ret ?_
  exact ret2 H rfl rfl rfl ⟨rfl, rfl⟩
theorem repeat_any (x : UInt8) (m g0 cb : Nat) (w0 : World) (hm : m < 1500) (hb : Bs w0 (some ⟨g0, 0, none⟩) 1 [x]) :
    Calls Tryd.prog 38 #[.slice (some ⟨g0, 0, none⟩) 1 cb, .int .i64 (m : Int)] w0 fun e w' => ∃ g, e = .returned (.slice (some ⟨g, 0, none⟩) m m) ∧ Bs w' (some ⟨g, 0, none⟩) m (List.replicate m x) ∧ Ext w0 w' := by
  rcases Nat.eq_zero_or_pos m with hm0 | hm0
  · skip
    refine calls_has (args := [.slice (some ⟨g0, 0, none⟩) 1 cb, .int .i64 (m : Int)]) Tryd.func38 rfl Tryd.ntmps38 (Nat.le_of_ble_eq_true rfl) (fun a H => ?_)
    simp only [argl, Nat.reduceAdd] at H
    refine wp_seq_k (fun K1 hK1 => ?_)
    refine e_region (fun R hR => ?_)
    refine e_op H rfl rfl (by decide) (x_assign H rfl rfl) ?_
    clear H a; intro a H
    refine e_nil (hR.out _ _ ?_)
    clear hR R
    refine hK1 _ _ ?_
    clear hK1 K1
    refine wp_seq_k (fun K2 hK2 => ?_)
    refine wp_seq_k (fun K3 hK3 => ?_)
    refine e_region (fun R hR => ?_)
    refine e_op H rfl rfl (by decide) (x_move H rfl rfl) ?_
    clear H a; intro a H
    refine e_op H rfl rfl (by decide) (x_binI H rfl rfl rfl (b_eql (b := true) (beq_t (by omega)))) ?_
    clear H a; intro a H
    refine e_nil (hR.out _ _ ?_)
    clear hR R
    refine hK3 _ _ ?_
    clear hK3 K3
    refine c_true H rfl ?_
    refine wp_seq_k (fun K4 hK4 => ?_)
    refine e_region (fun R hR => ?_)
    refine e_op H rfl rfl (by decide) (x_buildSlice H rfl rfl (bs0 _)) ?_
    clear H a; intro a H
    refine e_op H rfl rfl (by decide) (x_assign H rfl rfl) ?_
    clear H a; intro a H
    refine e_nil (hR.out _ _ ?_)
    clear hR R
    refine hK4 _ _ ?_
    clear hK4 K4
    refine wp_ret ?_
    refine t_ret ?_
    subst hm0
    exact ret1 H rfl rfl ⟨w0.heap.size, rfl, ⟨rfl, fun k hk => by omega⟩, (Ext.refl w0).al _⟩
  · skip
    refine calls_has (args := [.slice (some ⟨g0, 0, none⟩) 1 cb, .int .i64 (m : Int)]) Tryd.func38 rfl Tryd.ntmps38 (Nat.le_of_ble_eq_true rfl) (fun a H => ?_)
    simp only [argl, Nat.reduceAdd] at H
    refine wp_seq_k (fun K1 hK1 => ?_)
    refine e_region (fun R hR => ?_)
    refine e_op H rfl rfl (by decide) (x_assign H rfl rfl) ?_
    clear H a; intro a H
    refine e_nil (hR.out _ _ ?_)
    clear hR R
    refine hK1 _ _ ?_
    clear hK1 K1
    refine wp_seq_k (fun K2 hK2 => ?_)
    refine wp_seq_k (fun K3 hK3 => ?_)
    refine e_region (fun R hR => ?_)
    refine e_op H rfl rfl (by decide) (x_move H rfl rfl) ?_
    clear H a; intro a H
    refine e_op H rfl rfl (by decide) (x_binI H rfl rfl rfl (b_eql (b := false) (beq_f (by omega)))) ?_
    clear H a; intro a H
    refine e_nil (hR.out _ _ ?_)
    clear hR R
    refine hK3 _ _ ?_
    clear hK3 K3
    refine c_false H rfl ?_
    refine wp_skip ?_
    refine hK2 _ _ ?_
    clear hK2 K2
    refine wp_seq_k (fun K4 hK4 => ?_)
    refine wp_seq_k (fun K5 hK5 => ?_)
    refine e_region (fun R hR => ?_)
    refine e_op H rfl rfl (by decide) (x_move H rfl rfl) ?_
    clear H a; intro a H
    refine e_op H rfl rfl (by decide) (x_binI H rfl rfl rfl (b_lss (b := false) (dec_f (by omega)))) ?_
    clear H a; intro a H
    refine e_nil (hR.out _ _ ?_)
    clear hR R
    refine hK5 _ _ ?_
    clear hK5 K5
    refine c_false H rfl ?_
    refine wp_skip ?_
    refine hK4 _ _ ?_
    clear hK4 K4
    refine wp_seq_k (fun K6 hK6 => ?_)
    refine e_region (fun R hR => ?_)
    refine e_op H rfl rfl (by decide) (x_move H rfl rfl) ?_
    clear H a; intro a H
    refine e_op H rfl rfl (by decide) (x_builtin H rfl rfl (fun cs => len_sl Tryd.underlying22)) ?_
    clear H a; intro a H
    refine e_op H rfl rfl (by decide) (x_conv H rfl rfl (c_int (z := 1) Tryd.underlying3 Tryd.underlying76 (by rw [IntKind.wrap_u64]; omega))) ?_
    clear H a; intro a H
    refine e_op H rfl rfl (by decide) (x_move H rfl rfl) ?_
    clear H a; intro a H
    refine e_op H rfl rfl (by decide) (x_conv H rfl rfl (c_int (z := (m : Int)) Tryd.underlying3 Tryd.underlying76 (by rw [IntKind.wrap_u64]; omega))) ?_
    clear H a; intro a H
    refine e_callq H rfl rfl (by decide) rfl rfl (Tryd.call51 _) (mul_any m hm _) ?_
    clear H a
    rintro e w1 ⟨rfl, hq⟩
    subst w1
    refine ⟨_, rfl, fun a H => ?_⟩
    refine e_op H rfl rfl (by decide) (x_move H rfl rfl) ?_
    clear H a; intro a H
    refine e_op H rfl rfl (by decide) (x_extract H rfl rfl rfl) ?_
    clear H a; intro a H
    refine e_op H rfl rfl (by decide) (x_extract H rfl rfl rfl) ?_
    clear H a; intro a H
    refine e_op H rfl rfl (by decide) (x_assign H rfl rfl) ?_
    clear H a; intro a H
    refine e_op H rfl rfl (by decide) (x_assign H rfl rfl) ?_
    clear H a; intro a H
    refine e_nil (hR.out _ _ ?_)
    clear hR R
    refine hK6 _ _ ?_
    clear hK6 K6
    refine wp_seq_k (fun K7 hK7 => ?_)
    refine wp_seq_k (fun K8 hK8 => ?_)
    refine e_region (fun R hR => ?_)
    refine e_op H rfl rfl (by decide) (x_move H rfl rfl) ?_
    clear H a; intro a H
    refine e_op H rfl rfl (by decide) (x_binI H rfl rfl rfl (b_gtr (b := false) (rfl))) ?_
    clear H a; intro a H
    refine e_op H rfl rfl (by decide) (x_move H rfl rfl) ?_
    clear H a; intro a H
    refine e_opg H (wanted_true H rfl rfl rfl rfl) rfl (by decide) (x_move H rfl rfl) ?_
    clear H a; intro a H
    refine e_opg H (wanted_true H rfl rfl rfl rfl) rfl (by decide) (x_binI H rfl rfl rfl (b_gtr (b := false) (dec_f (by omega)))) ?_
    clear H a; intro a H
    refine e_op H rfl rfl (by decide) (x_pickF H rfl rfl rfl) ?_
    clear H a; intro a H
    refine e_nil (hR.out _ _ ?_)
    clear hR R
    refine hK8 _ _ ?_
    clear hK8 K8
    refine c_false H rfl ?_
    refine wp_skip ?_
    refine hK7 _ _ ?_
    clear hK7 K7
    refine wp_seq_k (fun K9 hK9 => ?_)
    refine e_region (fun R hR => ?_)
    refine e_op H rfl rfl (by decide) (x_move H rfl rfl) ?_
    clear H a; intro a H
    refine e_op H rfl rfl (by decide) (x_conv H rfl rfl (c_int (z := (m : Int)) Tryd.underlying76 Tryd.underlying3 (by rw [IntKind.wrap_i64]; omega))) ?_
    clear H a; intro a H
    refine e_op H rfl rfl (by decide) (x_assign H rfl rfl) ?_
    clear H a; intro a H
    refine e_nil (hR.out _ _ ?_)
    clear hR R
    refine hK9 _ _ ?_
    clear hK9 K9
    refine wp_seq_k (fun K10 hK10 => ?_)
    refine wp_seq_k (fun K11 hK11 => ?_)
    refine e_region (fun R hR => ?_)
    refine e_op H rfl rfl (by decide) (x_move H rfl rfl) ?_
    clear H a; intro a H
    refine e_op H rfl rfl (by decide) (x_builtin H rfl rfl (fun cs => len_sl Tryd.underlying22)) ?_
    clear H a; intro a H
    refine e_op H rfl rfl (by decide) (x_binI H rfl rfl rfl (b_eql (b := false) (rfl))) ?_
    clear H a; intro a H
    refine e_nil (hR.out _ _ ?_)
    clear hR R
    refine hK11 _ _ ?_
    clear hK11 K11
    refine c_false H rfl ?_
    refine wp_skip ?_
    refine hK10 _ _ ?_
    clear hK10 K10
    refine wp_seq_k (fun K12 hK12 => ?_)
    refine e_region (fun R hR => ?_)
    refine e_op H rfl rfl (by decide) (x_move H rfl rfl) ?_
    clear H a; intro a H
    refine e_op H rfl rfl (by decide) (x_assign H rfl rfl) ?_
    clear H a; intro a H
    refine e_nil (hR.out _ _ ?_)
    clear hR R
    refine hK12 _ _ ?_
    clear hK12 K12
    refine wp_seq_k (fun K13 hK13 => ?_)
    refine wp_seq_k (fun K14 hK14 => ?_)
    refine e_region (fun R hR => ?_)
    refine e_op H rfl rfl (by decide) (x_move H rfl rfl) ?_
    clear H a; intro a H
    refine e_op H rfl rfl (by decide) (x_binI H rfl rfl rfl (b_gtr (b := false) (dec_f (by omega)))) ?_
    clear H a; intro a H
    refine e_nil (hR.out _ _ ?_)
    clear hR R
    refine hK14 _ _ ?_
    clear hK14 K14
    refine c_false H rfl ?_
    refine wp_skip ?_
    refine hK13 _ _ ?_
    clear hK13 K13
    refine wp_seq_k (fun K15 hK15 => ?_)
    refine e_region (fun R hR => ?_)
    refine e_op H rfl rfl (by decide) (x_move H rfl rfl) ?_
    clear H a; intro a H
    obtain ⟨cs, hmk, hcs1, hcs2⟩ := run52 _ m (by omega)
    refine e_op H rfl rfl (by decide) (x_extern H rfl rfl hmk) ?_
    clear H a; intro a H
    have D1 : Blk _ _ 5 cs := Blk.new (w0).drew.drew 5 cs
    have E1 : Ext w0 _ := ((Ext.refl w0).dr.dr).al (.cells cs.toArray 5)
    have B1 := E1.bs hb
    obtain ⟨g, hg⟩ : ∃ g, g = w0.heap.size := ⟨_, rfl⟩
    rw [show w0.drew.drew.heap.size = g from hg.symm] at D1
    rw [← hg] at H
    generalize w0.drew.drew.alloc (.cells cs.toArray 5) = w1 at *
    refine e_op H rfl rfl (by decide) (x_move H rfl rfl) ?_
    clear H a; intro a H
    refine e_op H rfl rfl (by decide) (x_move H rfl rfl) ?_
    clear H a; intro a H
    refine e_op H rfl rfl (by decide) (x_slice3 H rfl rfl rfl rfl (sl_hm (hi := m) (mx := m) Tryd.underlying22 Tryd.sizeOf5 rfl rfl (by omega) (by omega))) ?_
    clear H a; intro a H
    refine e_op H rfl rfl (by decide) (x_assign H rfl rfl) ?_
    clear H a; intro a H
    refine e_nil (hR.out _ _ ?_)
    clear hR R
    refine hK15 _ _ ?_
    clear hK15 K15
    refine wp_seq_k (fun K16 hK16 => ?_)
    refine e_region (fun R hR => ?_)
    refine e_op H rfl rfl (by decide) (x_move H rfl rfl) ?_
    clear H a; intro a H
    refine e_op H rfl rfl (by decide) (x_move H rfl rfl) ?_
    clear H a; intro a H
    have hcp := run_copyG (dl := m) (dc := m) (cx := cb) (k := 0) (d := 1) w1 3 D1 B1 (by omega) (by omega) (by omega)
    refine e_op H rfl rfl (by decide) (x_builtin H rfl rfl (fun cs => bi_copy hcp)) ?_
    clear H a; intro a H
    have D2 := D1.row (cs.take 0 ++ u8s (([x] : List UInt8).take 1) ++ cs.drop (0 + 1))
    have E2 := E1.row_ (g := g) (by omega) (cs.take 0 ++ u8s (([x] : List UInt8).take 1) ++ cs.drop (0 + 1)).toArray
    have hl2 : (cs.take 0 ++ u8s (([x] : List UInt8).take 1) ++ cs.drop (0 + 1)).length = cs.length := rep_len (by rfl) (by omega)
    have ht2 : (cs.take 0 ++ u8s (([x] : List UInt8).take 1) ++ cs.drop (0 + 1)).take 1 = u8s (List.replicate 1 x) := rfl
    generalize hcur : cs.take 0 ++ u8s (([x] : List UInt8).take 1) ++ cs.drop (0 + 1) = cur0 at *
    generalize w1.setRow g cur0.toArray = w2 at *
    have hmc : m ≤ cur0.length := by omega
    refine e_op H rfl rfl (by decide) (x_assign H rfl rfl) ?_
    clear H a; intro a H
    refine e_nil (hR.out _ _ ?_)
    clear hR R
    refine hK16 _ _ ?_
    clear hK16 K16
    refine wp_seq_k (fun K17 hK17 => ?_)
    refine wp_block ?_
    refine wp_loop_ghost (fun n a w => ∃ (bp : Nat) (cur : List Value), 1 ≤ bp ∧ bp ≤ m ∧ n = m - bp ∧ Has a 77 [(7, .int .i64 (m : Int)), (8, .int .i64 (m : Int)), (9, .slice (some ⟨g, 0, none⟩) m m), (10, .int .i64 (bp : Int))] ∧ m ≤ cur.length ∧ cur.take bp = u8s (List.replicate bp x) ∧ Blk w g 5 cur ∧ Ext w0 w) (m - 1) ?_ ?_
    · skip
      exact ⟨1, cur0, by omega, by omega, rfl, H.sub ⟨rfl, rfl, rfl, rfl, trivial⟩, hmc, ht2, D2, E2⟩
    · skip
      clear H a D2 E2 ht2 hmc hl2
      intro n a w hI
      obtain ⟨bp, cur, hb1, hbm, rfl, H, hlc, ht, D2, E2⟩ := hI
      rcases Nat.lt_or_ge bp m with hlt | hge
      · skip
        skip
        refine wp_seq_k (fun K18 hK18 => ?_)
        refine wp_seq_k (fun K19 hK19 => ?_)
        refine e_region (fun R hR => ?_)
        refine e_op H rfl rfl (by decide) (x_move H rfl rfl) ?_
        clear H a; intro a H
        refine e_op H rfl rfl (by decide) (x_move H rfl rfl) ?_
        clear H a; intro a H
        refine e_op H rfl rfl (by decide) (x_binI H rfl rfl rfl (b_lss (b := true) (dec_t (by omega)))) ?_
        clear H a; intro a H
        refine e_nil (hR.out _ _ ?_)
        clear hR R
        refine hK19 _ _ ?_
        clear hK19 K19
        refine c_true H rfl ?_
        refine wp_skip ?_
        refine hK18 _ _ ?_
        clear hK18 K18
        refine wp_block ?_
        refine wp_seq_k (fun K20 hK20 => ?_)
        refine e_region (fun R hR => ?_)
        refine e_op H rfl rfl (by decide) (x_move H rfl rfl) ?_
        clear H a; intro a H
        refine e_op H rfl rfl (by decide) (x_move H rfl rfl) ?_
        clear H a; intro a H
        refine e_op H rfl rfl (by decide) (x_builtin H rfl rfl (fun cs => bi_min (z := (bp : Int)) (by split <;> omega))) ?_
        clear H a; intro a H
        refine e_op H rfl rfl (by decide) (x_assign H rfl rfl) ?_
        clear H a; intro a H
        refine e_nil (hR.out _ _ ?_)
        clear hR R
        refine hK20 _ _ ?_
        clear hK20 K20
        refine t_start (by kernel_rfl) (fun R hR => ?_)
        refine t_take 0 H rfl rfl rfl (by decide) (by kernel_rfl) (by kernel_rfl) (by kernel_rfl) (fun w' => (x_move H rfl rfl)) ?_
        clear H a; intro a H
        refine t_take 1 H rfl rfl rfl (by decide) (by kernel_rfl) (by kernel_rfl) (by kernel_rfl) (fun w' => (x_move H rfl rfl)) ?_
        clear H a; intro a H
        refine t_take 2 H rfl rfl rfl (by decide) (by kernel_rfl) (by kernel_rfl) (by kernel_rfl) (fun w' => (x_move H rfl rfl)) ?_
        clear H a; intro a H
        refine t_take 3 H rfl rfl rfl (by decide) (by kernel_rfl) (by kernel_rfl) (by kernel_rfl) (fun w' => (x_slice H rfl rfl rfl rfl (sl_lo (lo := bp) Tryd.underlying22 Tryd.sizeOf5 rfl (by omega)))) ?_
        clear H a; intro a H
        refine t_take 4 H rfl rfl rfl (by decide) (by kernel_rfl) (by kernel_rfl) (by kernel_rfl) (fun w' => (x_move H rfl rfl)) ?_
        clear H a; intro a H
        refine t_take 5 H rfl rfl rfl (by decide) (by kernel_rfl) (by kernel_rfl) (by kernel_rfl) (fun w' => (x_move H rfl rfl)) ?_
        clear H a; intro a H
        refine t_take 6 H rfl rfl rfl (by decide) (by kernel_rfl) (by kernel_rfl) (by kernel_rfl) (fun w' => (x_slice H rfl rfl rfl rfl (sl_hi (hi := bp) Tryd.underlying22 Tryd.sizeOf5 rfl (by omega)))) ?_
        clear H a; intro a H
        obtain ⟨d, hd⟩ : ∃ d, d = min bp (m - bp) := ⟨_, rfl⟩
        have D3 : Blk w.drew g 5 cur := D2
        have E3 := E2.dr
        generalize w.drew = wd at *
        have hcp := run_copyG (dl := m - bp) (dc := m - bp) (cx := m) (k := bp) (d := d) wd 3 D3 (D3.bsTake ht (by simp)) hd (by omega) (by omega)
        rw [show cutA (some ⟨g, 0, none⟩) m bp = some ⟨g, bp, none⟩ by unfold cutA; rw [if_neg (by omega)]; simp [Addr.add_lit]] at H
        refine t_one 7 H rfl (by kernel_rfl) (wanted_none rfl) rfl (by decide) (x_builtin H rfl rfl (fun cs => bi_copy hcp)) ?_
        clear H a; intro a H
        have D4 := D3.row (cur.take bp ++ u8s ((List.replicate bp x).take d) ++ cur.drop (bp + d))
        have E4 := E3.row_ (g := g) (by omega) (cur.take bp ++ u8s ((List.replicate bp x).take d) ++ cur.drop (bp + d)).toArray
        have hl4 : (cur.take bp ++ u8s ((List.replicate bp x).take d) ++ cur.drop (bp + d)).length = cur.length := rep_len (by simp; omega) (by omega)
        have ht4 := rep_step ht (show d ≤ bp by omega)
        refine t_take 8 H rfl rfl rfl (by decide) (by kernel_rfl) (by kernel_rfl) (by kernel_rfl) (fun w' => (x_binI H rfl rfl rfl (b_add (z := ((bp + d : Nat) : Int)) (by rw [IntKind.wrap_i64]; omega)))) ?_
        clear H a; intro a H
        refine t_take 9 H rfl rfl rfl (by decide) (by kernel_rfl) (by kernel_rfl) (by kernel_rfl) (fun w' => (x_assign H rfl rfl)) ?_
        clear H a; intro a H
        refine t_done (by kernel_rfl) (hR.out _ _ ?_)
        clear hR R
        exact ⟨m - (bp + d), by omega, bp + d, _, by omega, by omega, rfl, H.sub ⟨rfl, rfl, rfl, rfl, trivial⟩, by rw [hl4]; exact hlc, ht4, D4, E4⟩
      · skip
        obtain rfl : bp = m := by omega
        refine wp_seq_k (fun K21 hK21 => ?_)
        refine wp_seq_k (fun K22 hK22 => ?_)
        refine e_region (fun R hR => ?_)
        refine e_op H rfl rfl (by decide) (x_move H rfl rfl) ?_
        clear H a; intro a H
        refine e_op H rfl rfl (by decide) (x_move H rfl rfl) ?_
        clear H a; intro a H
        refine e_op H rfl rfl (by decide) (x_binI H rfl rfl rfl (b_lss (b := false) (dec_f (by omega)))) ?_
        clear H a; intro a H
        refine e_nil (hR.out _ _ ?_)
        clear hR R
        refine hK22 _ _ ?_
        clear hK22 K22
        refine c_false H rfl ?_
        refine wp_exit ?_
        refine t_exit ?_
        refine t_exit ?_
        refine b_hit ?_
        clear hK21 K21
        refine hK17 _ _ ?_
        clear hK17 K17
        refine wp_seq_k (fun K23 hK23 => ?_)
        refine e_region (fun R hR => ?_)
        refine e_op H rfl rfl (by decide) (x_move H rfl rfl) ?_
        clear H a; intro a H
        refine e_op H rfl rfl (by decide) (x_assign H rfl rfl) ?_
        clear H a; intro a H
        refine e_nil (hR.out _ _ ?_)
        clear hR R
        refine hK23 _ _ ?_
        clear hK23 K23
        refine wp_ret ?_
        exact ret1 H rfl rfl ⟨g, rfl, D2.bsTake ht (by simp), E2⟩
theorem digestLong_any (n v : Nat) (W : World) (hn : n ≤ 65535) (hv : v ≤ 255) (K0 : Kc W) (h0 : 0 < W.heap.size) :
    Calls Tryd.prog 13 #[.int .u16 (n : Int), .int .u8 (v : Int)] W fun e w' => e = .returned (.bool true) ∧ Ext W w' := by
  refine calls_has (args := [.int .u16 (n : Int), .int .u8 (v : Int)]) Tryd.func13 rfl Tryd.ntmps13 (Nat.le_of_ble_eq_true rfl) (fun a H => ?_)
  simp only [argl, Nat.reduceAdd] at H
  refine wp_seq_k (fun K1 hK1 => ?_)
  refine e_region (fun R hR => ?_)
  refine e_op H rfl rfl (by decide) (x_assign H rfl rfl) ?_
  clear H a; intro a H
  refine e_nil (hR.out _ _ ?_)
  clear hR R
  refine hK1 _ _ ?_
  clear hK1 K1
  refine wp_seq_k (fun K2 hK2 => ?_)
  refine wp_seq_k (fun K3 hK3 => ?_)
  refine e_region (fun R hR => ?_)
  refine e_callq H rfl rfl (by decide) rfl rfl (Tryd.call14 _) (awake_any W K0 h0) ?_
  clear H a
  rintro e w1 ⟨rfl, E1⟩
  refine ⟨_, rfl, fun a H => ?_⟩
  have hs1 := E1.sz
  refine e_op H rfl rfl (by decide) (x_un H rfl rfl (u_not (c := false) (rfl))) ?_
  clear H a; intro a H
  refine e_nil (hR.out _ _ ?_)
  clear hR R
  refine hK3 _ _ ?_
  clear hK3 K3
  refine c_false H rfl ?_
  refine wp_skip ?_
  refine hK2 _ _ ?_
  clear hK2 K2
  refine wp_seq_k (fun K4 hK4 => ?_)
  refine e_region (fun R hR => ?_)
  refine e_op H rfl rfl (by decide) (x_move H rfl rfl) ?_
  clear H a; intro a H
  refine e_op H rfl rfl (by decide) (x_buildSlice H rfl rfl (bs1 _ _)) ?_
  clear H a; intro a H
  have B1 : Bs (w1.alloc (.cells #[.int .u8 (v : Int)] 5)) (some ⟨w1.heap.size, 0, none⟩) 1 [UInt8.ofNat v] := by
    have := (Blk.new w1 5 (u8s [UInt8.ofNat v])).bs (n := 1) rfl
    have e : (u8s [UInt8.ofNat v]).toArray = #[.int .u8 (v : Int)] := by simp [u8s]; omega
    rwa [e] at this
  have E2 := E1.al (.cells #[.int .u8 (v : Int)] 5)
  obtain ⟨g1, hg1⟩ : ∃ g1, g1 = w1.heap.size := ⟨_, rfl⟩
  rw [← hg1] at H B1
  generalize w1.alloc (.cells #[.int .u8 (v : Int)] 5) = w2 at *
  obtain ⟨m, hm⟩ : ∃ m, m = n % 1500 := ⟨_, rfl⟩
  have hm1 : m < 1500 := by omega
  refine e_op H rfl rfl (by decide) (x_move H rfl rfl) ?_
  clear H a; intro a H
  refine e_op H rfl rfl (by decide) (x_binI H rfl rfl rfl (b_rem (z := (m : Int)) (by decide) (by rw [Int.tmod_eq_emod_of_nonneg (by omega)]; omega))) ?_
  clear H a; intro a H
  refine e_op H rfl rfl (by decide) (x_conv H rfl rfl (c_int (z := (m : Int)) Tryd.underlying63 Tryd.underlying3 (by rw [IntKind.wrap_i64]; omega))) ?_
  clear H a; intro a H
  refine e_callq H rfl rfl (by decide) rfl rfl (Tryd.call38 _) (repeat_any (UInt8.ofNat v) m g1 1 w2 hm1 B1) ?_
  clear H a
  rintro e w3 ⟨g, rfl, B3, E23⟩
  refine ⟨_, rfl, fun a H => ?_⟩
  have E3 := E2.tr E23
  have hs3 := E3.sz
  refine e_op H rfl rfl (by decide) (x_assign H rfl rfl) ?_
  clear H a; intro a H
  refine e_nil (hR.out _ _ ?_)
  clear hR R
  refine hK4 _ _ ?_
  clear hK4 K4
  refine wp_seq_k (fun K5 hK5 => ?_)
  refine e_region (fun R hR => ?_)
  refine e_op H rfl rfl (by decide) (x_move H rfl rfl) ?_
  clear H a; intro a H
  refine e_callq H rfl rfl (by decide) rfl rfl (Tryd.call16 _) (dsum_any (some ⟨g, 0, none⟩) m m _ w3 B3 (by omega) (fun h => by cases h) (K0.ext E3) (by omega) (by omega)) ?_
  clear H a
  rintro e w4 ⟨rfl, E34⟩
  refine ⟨_, rfl, fun a H => ?_⟩
  have E4 := E3.tr E34
  have B4 := E34.bs B3
  refine e_op H rfl rfl (by decide) (x_move H rfl rfl) ?_
  clear H a; intro a H
  refine e_callq H rfl rfl (by decide) rfl rfl (Tryd.call17 _) (refsum_any (some ⟨g, 0, none⟩) m m _ w4 B4 (fun h => by cases h) (by omega)) ?_
  clear H a
  rintro e w5 ⟨rfl, E45⟩
  refine ⟨_, rfl, fun a H => ?_⟩
  have E5 := E4.tr E45
  refine e_op H rfl rfl (by decide) (x_bin H rfl rfl rfl eqg26 (eql26 (c := true) (sha_len _) (sha_len _) (by simp))) ?_
  clear H a; intro a H
  refine e_op H rfl rfl (by decide) (x_assign H rfl rfl) ?_
  clear H a; intro a H
  refine e_nil (hR.out _ _ ?_)
  clear hR R
  refine hK5 _ _ ?_
  clear hK5 K5
  refine wp_ret ?_
  exact ret1 H rfl rfl ⟨rfl, E5⟩
end Go.Proofs.YtknllmcpogoeoaaDoor
