/- DigestKeeps, DigestPieces, walked. -/
import Derived.Test.YtknllmcpogoeoaaDoorL2
namespace Go.Proofs.YtknllmcpogoeoaaDoor
open Go.RowKit
set_option linter.unusedVariables false
set_option linter.unusedSimpArgs false
set_option maxRecDepth 100000
theorem equal_any (a1 a2 : Option Addr) (n1 c1 n2 c2 : Nat) (l : List UInt8) (w : World) (h1 : Bs w a1 n1 l) (h2 : Bs w a2 n2 l) : Calls Tryd.prog 20 #[.slice a1 n1 c1, .slice a2 n2 c2] w fun e w' => e = .returned (.bool true) ∧ w' = w := by
  refine calls_has (args := [.slice a1 n1 c1, .slice a2 n2 c2]) Tryd.func20 rfl Tryd.ntmps20 (Nat.le_of_ble_eq_true rfl) (fun a H => ?_)
  simp only [argl, Nat.reduceAdd] at H
  refine wp_seq_k (fun K1 hK1 => ?_)
  refine e_region (fun R hR => ?_)
  refine e_op H rfl rfl (by decide) (x_assign H rfl rfl) ?_
  clear H a; intro a H
  refine e_nil (hR.out _ _ ?_)
  clear hR R
  refine hK1 _ _ ?_
  clear hK1 K1
  refine wp_seq_k (fun K2 hK2 => ?_)
  refine e_region (fun R hR => ?_)
  refine e_op H rfl rfl (by decide) (x_move H rfl rfl) ?_
  clear H a; intro a H
  refine e_op H rfl rfl (by decide) (x_conv H rfl rfl (conv_bs h1)) ?_
  clear H a; intro a H
  refine e_op H rfl rfl (by decide) (x_move H rfl rfl) ?_
  clear H a; intro a H
  refine e_op H rfl rfl (by decide) (x_conv H rfl rfl (conv_bs h2)) ?_
  clear H a; intro a H
  refine e_op H rfl rfl (by decide) (x_bin H rfl rfl rfl eqg9 (eql9 rfl)) ?_
  clear H a; intro a H
  refine e_op H rfl rfl (by decide) (x_assign H rfl rfl) ?_
  clear H a; intro a H
  refine e_nil (hR.out _ _ ?_)
  clear hR R
  refine hK2 _ _ ?_
  clear hK2 K2
  refine wp_ret ?_
  exact ret1 H rfl rfl ⟨rfl, rfl⟩
theorem Bs.pre {w : World} {a : Option Addr} {n : Nat} {l : List UInt8} (h : Bs w a n l) (k : Nat) (hk : k ≤ n) : Bs w a k (l.take k) := by
  have := h.sub 0 k (by omega) (a' := a) (fun b off e _ => by rw [e]; rfl)
  simpa using this
theorem Bs.cut2 {w : World} {a : Option Addr} {n c : Nat} {l : List UInt8} (h : Bs w a n l) (hc : n ≤ c) (lo hi : Nat) (h1 : lo ≤ hi) (h2 : hi ≤ n) : Bs w (cutA a c lo) (hi - lo) ((l.drop lo).take (hi - lo)) :=
  h.sub lo (hi - lo) (by omega) (fun b off e hp => by
    subst e
    unfold cutA
    rw [if_neg (by omega)]
    simp [Addr.add_lit])
theorem cutA_nil {a : Option Addr} {c : Nat} (h : a = none → c = 0) (lo : Nat) : cutA a c lo = none → c - lo = 0 := by
  intro e
  unfold cutA at e
  by_cases hc : c = lo
  · omega
  · rw [if_neg hc] at e
    simp only [Option.map_eq_none_iff] at e
    have := h e
    omega
theorem neq26 {xs : List UInt8} {w : World} (hx : xs.length = 32) : (binOp .neq 26 (.agg (u8s xs).toArray) (.agg (u8s xs).toArray)).run Tryd.prog w = .ok (.bool false) w := by
  have h := eql26 (w := w) (c := true) hx hx (by simp)
  simp only [binOp] at h ⊢
  cases hq : (Op.equal 26 (.agg (u8s xs).toArray) (.agg (u8s xs).toArray)).run Tryd.prog w with
  | ok b w' =>
    simp [hq] at h ⊢
    exact h
  | halt s w' => simp [hq] at h
set_option maxHeartbeats 1000000 in
theorem digestKeeps_any (a0 a1 : Option Addr) (m0 c0 m1 c1 v : Nat) (q0 q1 : List UInt8) (W : World) (hp0 : Bs W a0 m0 q0) (hp1 : Bs W a1 m1 q1) (hc0 : m0 ≤ c0) (hc1 : m1 ≤ c1)
    (hn0 : a0 = none → c0 = 0) (hn1 : a1 = none → c1 = 0) (hv : v ≤ 255) (K0 : Kc W) (h0 : 0 < W.heap.size) :
    Calls Tryd.prog 4 #[.slice a0 m0 c0, .slice a1 m1 c1, .int .u8 (v : Int)] W fun e w' => e = .returned (.bool true) ∧ Ext W w' := by
  refine calls_has (args := [.slice a0 m0 c0, .slice a1 m1 c1, .int .u8 (v : Int)]) Tryd.func4 rfl Tryd.ntmps4 (Nat.le_of_ble_eq_true rfl) (fun a H => ?_)
  simp only [argl, Nat.reduceAdd] at H
  refine wp_seq_k (fun K1 hK1 => ?_)
  refine e_region (fun R hR => ?_)
  refine e_op H rfl rfl (by decide) (x_assign H rfl rfl) ?_
  clear H a; intro a H
  refine e_nil (hR.out _ _ ?_)
  clear hR R
  refine hK1 _ _ ?_
  clear hK1 K1
  refine wp_seq_k (fun K2 hK2 => ?_)
  refine wp_seq_k (fun K3 hK3 => ?_)
  refine e_region (fun R hR => ?_)
  refine e_callq H rfl rfl (by decide) rfl rfl (Tryd.call14 _) (awake_any W K0 h0) ?_
  clear H a
  rintro e w1 ⟨rfl, E1⟩
  refine ⟨_, rfl, fun a H => ?_⟩
  have hs1 := E1.sz
  refine e_op H rfl rfl (by decide) (x_un H rfl rfl (u_not (c := false) (rfl))) ?_
  clear H a; intro a H
  refine e_nil (hR.out _ _ ?_)
  clear hR R
  refine hK3 _ _ ?_
  clear hK3 K3
  refine c_false H rfl ?_
  refine wp_skip ?_
  refine hK2 _ _ ?_
  clear hK2 K2
  refine wp_seq_k (fun K4 hK4 => ?_)
  refine e_region (fun R hR => ?_)
  refine e_op H rfl rfl (by decide) (x_move H rfl rfl) ?_
  clear H a; intro a H
  refine e_callp H rfl rfl (by decide) rfl rfl (Tryd.call15 _) (short_any a0 m0 c0 _ hc0) ?_
  clear H a; intro a H
  refine e_op H rfl rfl (by decide) (x_move H rfl rfl) ?_
  clear H a; intro a H
  refine e_callp H rfl rfl (by decide) rfl rfl (Tryd.call15 _) (short_any a1 m1 c1 _ hc1) ?_
  clear H a; intro a H
  refine e_op H rfl rfl (by decide) (x_assign H rfl rfl) ?_
  clear H a; intro a H
  refine e_op H rfl rfl (by decide) (x_assign H rfl rfl) ?_
  clear H a; intro a H
  refine e_nil (hR.out _ _ ?_)
  clear hR R
  refine hK4 _ _ ?_
  clear hK4 K4
  refine wp_seq_k (fun K5 hK5 => ?_)
  refine e_region (fun R hR => ?_)
  obtain ⟨p0, B0, e0⟩ := bs_short hp0
  obtain ⟨p1, B1, e1⟩ := bs_short hp1
  have l0 := B0.leng
  have l1 := B1.leng
  clear e0 e1
  refine e_op H rfl rfl (by decide) (x_buildSlice H rfl rfl (bs0 _)) ?_
  clear H a; intro a H
  have Z := Ow.zero w1 w1.heap.size rfl w1.heap.size (Nat.le_refl _)
  have EZ := E1.al (.cells #[] 5)
  obtain ⟨am, cm, w2, hr, O2, G2⟩ := run_app (w1.alloc (.cells #[] 5)) 22 w1.heap.size (some ⟨w1.heap.size, 0, none⟩) 0 0 [] a0 (min m0 300) c0 p0 Z (EZ.bs B0) (by omega) (by simp) hn0
  have E2 := EZ.app Z hs1 G2
  rw [List.nil_append, Nat.zero_add] at O2
  rw [Nat.zero_add] at hr
  have hsm : w1.heap.size ≤ w2.heap.size := by have := G2.size; simp at this; omega
  refine e_op H rfl rfl (by decide) (x_move H rfl rfl) ?_
  clear H a; intro a H
  refine e_op H rfl rfl (by decide) (x_builtin H rfl rfl (fun cs => bi_app hr)) ?_
  clear H a; intro a H
  refine e_op H rfl rfl (by decide) (x_assign H rfl rfl) ?_
  clear H a; intro a H
  refine e_nil (hR.out _ _ ?_)
  clear hR R
  refine hK5 _ _ ?_
  clear hK5 K5
  refine wp_seq_k (fun K6 hK6 => ?_)
  refine e_region (fun R hR => ?_)
  refine e_callq H rfl rfl (by decide) rfl rfl (Tryd.call18 _) (new_any w2) ?_
  clear H a
  rintro e w3 ⟨g, rfl, HI, hg, E23⟩
  refine ⟨_, rfl, fun a H => ?_⟩
  have E3 := E2.tr E23
  have O3 := E23.row O2
  have O3 : Ow w3 w1.heap.size am (min m0 300) cm p0 := O3
  have hs3 := E3.sz
  have hm3 : ∀ b o, am = some ⟨b, o, none⟩ → w1.heap.size ≤ b ∧ b < g := fun b o e => by have := O2.lt e; omega
  have hOc := O3.cap
  refine e_op H rfl rfl (by decide) (x_assign H rfl rfl) ?_
  clear H a; intro a H
  refine e_nil (hR.out _ _ ?_)
  clear hR R
  refine hK6 _ _ ?_
  clear hK6 K6
  refine wp_seq_k (fun K7 hK7 => ?_)
  refine e_region (fun R hR => ?_)
  refine e_op H rfl rfl (by decide) (x_move H rfl rfl) ?_
  clear H a; intro a H
  refine e_op H rfl rfl (by decide) (x_move H rfl rfl) ?_
  clear H a; intro a H
  refine e_callq H rfl rfl (by decide) rfl rfl (Tryd.call19 _) (write_any g [] p0 am (min m0 300) cm w3 HI ⟨O3.bs, hOc.1, hOc.2, fun b o e _ => by have := hm3 b o e; omega⟩ (K0.ext E3) (by omega) (by simp; omega)) ?_
  clear H a
  rintro e w4 ⟨rfl, HI4, F4⟩
  refine ⟨_, rfl, fun a H => ?_⟩
  rw [List.nil_append] at HI4
  have O4 := Ow.frm O3 F4 (fun b o e => by have := hm3 b o e; simp; omega)
  have E4 := F4.ext E3 (fun x hx => by simp only [List.mem_singleton] at hx; omega)
  refine e_nil (hR.out _ _ ?_)
  clear hR R
  refine hK7 _ _ ?_
  clear hK7 K7
  refine wp_seq_k (fun K8 hK8 => ?_)
  refine wp_seq_k (fun K9 hK9 => ?_)
  refine e_region (fun R hR => ?_)
  refine e_op H rfl rfl (by decide) (x_move H rfl rfl) ?_
  clear H a; intro a H
  refine e_op H rfl rfl (by decide) (x_move H rfl rfl) ?_
  clear H a; intro a H
  refine e_callp H rfl rfl (by decide) rfl rfl (Tryd.call20 _) (equal_any am a0 _ _ _ _ p0 w4 O4.bs (E4.bs B0)) ?_
  clear H a; intro a H
  refine e_op H rfl rfl (by decide) (x_un H rfl rfl (u_not (c := false) (rfl))) ?_
  clear H a; intro a H
  refine e_nil (hR.out _ _ ?_)
  clear hR R
  refine hK9 _ _ ?_
  clear hK9 K9
  refine c_false H rfl ?_
  refine wp_skip ?_
  refine hK8 _ _ ?_
  clear hK8 K8
  refine wp_seq_k (fun K10 hK10 => ?_)
  refine wp_seq_k (fun K11 hK11 => ?_)
  refine e_region (fun R hR => ?_)
  refine e_op H rfl rfl (by decide) (x_move H rfl rfl) ?_
  clear H a; intro a H
  refine e_op H rfl rfl (by decide) (x_builtin H rfl rfl (fun cs => len_sl Tryd.underlying22)) ?_
  clear H a; intro a H
  refine e_op H rfl rfl (by decide) (x_move H rfl rfl) ?_
  clear H a; intro a H
  refine e_nil (hR.out _ _ ?_)
  clear hR R
  refine hK11 _ _ ?_
  clear hK11 K11
  refine wp_block ?_
  refine wp_loop_ghost (fun n a w => ∃ (i : Nat) (lm : List UInt8), i ≤ min m0 300 ∧ n = min m0 300 - i ∧ Has a 49 [(0, .slice a0 (min m0 300) c0), (1, .slice a1 (min m1 300) c1), (2, .int .u8 (v : Int)), (7, .slice am (min m0 300) cm), (8, .pointer (some ⟨g, 0, none⟩)), (28, .int .i64 ((min m0 300 : Nat) : Int)), (29, .int .i64 (i : Int))] ∧ Ow w w1.heap.size am (min m0 300) cm lm ∧ HashIs w g p0 ∧ Ext W w) (min m0 300) ?_ ?_
  · skip
    exact ⟨0, p0, by omega, rfl, H.sub ⟨rfl, rfl, rfl, rfl, rfl, rfl, rfl, trivial⟩, O4, HI4, E4⟩
  · skip
    clear H a HI4 O4 E4
    intro n a w hI
    clear F4 w4
    obtain ⟨i, lm, hi, rfl, H, O4, HI4, E4⟩ := hI
    rcases Nat.lt_or_ge i (min m0 300) with hlt | hge
    · skip
      obtain ⟨gm, rfl, hgm, hgm2, hfz⟩ := O4.form0 (by omega)
      have hmg := hm3 gm 0 rfl
      obtain ⟨b2, o2, e2, hcc⟩ := O4.bs.cell i hlt
      obtain ⟨rfl, rfl⟩ : gm = b2 ∧ 0 = o2 := by simpa using e2
      rw [Nat.zero_add] at hcc
      refine wp_seq_k (fun K12 hK12 => ?_)
      refine e_region (fun R hR => ?_)
      refine e_op H rfl rfl (by decide) (x_binI H rfl rfl rfl (b_lss (b := true) (dec_t (by omega)))) ?_
      clear H a; intro a H
      refine e_nil (hR.out _ _ ?_)
      clear hR R
      refine hK12 _ _ ?_
      clear hK12 K12
      refine wp_seq_k (fun K13 hK13 => ?_)
      refine c_true H rfl ?_
      refine wp_skip ?_
      refine hK13 _ _ ?_
      clear hK13 K13
      refine wp_seq_k (fun K14 hK14 => ?_)
      refine wp_block ?_
      refine wp_seq_k (fun K15 hK15 => ?_)
      refine e_region (fun R hR => ?_)
      refine e_op H rfl rfl (by decide) (x_move H rfl rfl) ?_
      clear H a; intro a H
      refine e_op H rfl rfl (by decide) (x_assign H rfl rfl) ?_
      clear H a; intro a H
      refine e_nil (hR.out _ _ ?_)
      clear hR R
      refine hK15 _ _ ?_
      clear hK15 K15
      refine e_region (fun R hR => ?_)
      refine e_op H rfl rfl (by decide) (x_move H rfl rfl) ?_
      clear H a; intro a H
      refine e_op H rfl rfl (by decide) (x_move H rfl rfl) ?_
      clear H a; intro a H
      refine e_op H rfl rfl (by decide) (x_move H rfl rfl) ?_
      clear H a; intro a H
      refine e_op H rfl rfl (by decide) (x_indexAddr H rfl rfl rfl (i_sl0 (m := i) Tryd.underlying22 Tryd.sizeOf5 rfl hlt)) ?_
      clear H a; intro a H
      refine e_st H rfl rfl (x_store H rfl rfl rfl (st_cell rfl rfl Tryd.sizeOf5 (hfz i) (by rw [hcc]; rfl))) ?_
      have O5 := O4.setAt i hlt (UInt8.ofNat v) (v : Int) (by rw [ofNat_mod]; omega)
      have F5 : Frm [gm] w (w.setCell ⟨gm, i, none⟩ (.int .u8 (v : Int))) := (Frm.refl [gm] w).st gm i _ (.inl (by simp))
      have HI5 := HI4.frm F5 (by simp; omega)
      have E5 := F5.ext E4 (fun x hx => by simp only [List.mem_singleton] at hx; omega)
      refine e_nil (hR.out _ _ ?_)
      clear hR R
      refine hK14 _ _ ?_
      clear hK14 K14
      refine e_region (fun R hR => ?_)
      refine e_op H rfl rfl (by decide) (x_binI H rfl rfl rfl (b_add (z := ((i + 1 : Nat) : Int)) (by rw [IntKind.wrap_i64]; omega))) ?_
      clear H a; intro a H
      refine e_op H rfl rfl (by decide) (x_move H rfl rfl) ?_
      clear H a; intro a H
      refine e_nil (hR.out _ _ ?_)
      clear hR R
      exact ⟨min m0 300 - (i + 1), by omega, i + 1, _, by omega, rfl, H.sub ⟨rfl, rfl, rfl, rfl, rfl, rfl, rfl, trivial⟩, O5, HI5, E5⟩
    · skip
      obtain rfl : i = min m0 300 := by omega
      refine wp_seq_k (fun K16 hK16 => ?_)
      refine e_region (fun R hR => ?_)
      refine e_op H rfl rfl (by decide) (x_binI H rfl rfl rfl (b_lss (b := false) (dec_f (by omega)))) ?_
      clear H a; intro a H
      refine e_nil (hR.out _ _ ?_)
      clear hR R
      refine hK16 _ _ ?_
      clear hK16 K16
      refine wp_seq_k (fun K17 hK17 => ?_)
      refine c_false H rfl ?_
      refine wp_exit ?_
      refine t_exit ?_
      refine t_exit ?_
      refine b_hit ?_
      clear hK17 K17
      refine hK10 _ _ ?_
      clear hK10 K10
      refine wp_seq_k (fun K18 hK18 => ?_)
      refine e_region (fun R hR => ?_)
      refine e_op H rfl rfl (by decide) (x_move H rfl rfl) ?_
      clear H a; intro a H
      refine e_op H rfl rfl (by decide) (x_move H rfl rfl) ?_
      clear H a; intro a H
      refine e_callq H rfl rfl (by decide) rfl rfl (Tryd.call19 _) (write_any g p0 p1 a1 (min m1 300) c1 w HI4 (Sv.old B1 E4 (by omega) hn1 (by omega)) (K0.ext E4) (by omega) (by omega)) ?_
      clear H a
      rintro e w6 ⟨rfl, HI6, F6⟩
      refine ⟨_, rfl, fun a H => ?_⟩
      have E7 := F6.ext E4 (fun x hx => by simp only [List.mem_singleton] at hx; omega)
      have hs7 := E7.sz
      refine e_nil (hR.out _ _ ?_)
      clear hR R
      refine hK18 _ _ ?_
      clear hK18 K18
      refine wp_seq_k (fun K19 hK19 => ?_)
      refine e_region (fun R hR => ?_)
      refine e_op H rfl rfl (by decide) (x_move H rfl rfl) ?_
      clear H a; intro a H
      refine e_callq H rfl rfl (by decide) rfl rfl (Tryd.call21 _) (sum_any g (p0 ++ p1) w6 HI6 (K0.ext E7) (by omega) (by rw [List.length_append]; omega)) ?_
      clear H a
      rintro e w7 ⟨rfl, E78⟩
      refine ⟨_, rfl, fun a H => ?_⟩
      have E8 := E7.tr E78
      refine e_op H rfl rfl (by decide) (x_buildSlice H rfl rfl (bs0 _)) ?_
      clear H a; intro a H
      have Z8 := Ow.zero w7 w7.heap.size rfl w7.heap.size (Nat.le_refl _)
      have EZ8 := E8.al (.cells #[] 5)
      have hsz8 := E8.sz
      obtain ⟨b8, d8, v8, hr8, O8, G8⟩ := run_app (w7.alloc (.cells #[] 5)) 22 w7.heap.size (some ⟨w7.heap.size, 0, none⟩) 0 0 [] a0 (min m0 300) c0 p0 Z8 (EZ8.bs B0) (by omega) (by simp) hn0
      have EA8 := EZ8.app Z8 (by omega) G8
      have hsv8 : w7.heap.size ≤ v8.heap.size := by have := G8.size; simp at this; omega
      rw [List.nil_append, Nat.zero_add] at O8
      rw [Nat.zero_add] at hr8
      obtain ⟨bb8, dd8, vv8, hrr8, OO8, GG8⟩ := run_app v8 22 w7.heap.size b8 (min m0 300) d8 p0 a1 (min m1 300) c1 p1 O8 (EA8.bs B1) (by omega) (by omega) hn1
      have EB8 := EA8.app O8 (by omega) GG8
      have hob8 := OO8.cap
      refine e_op H rfl rfl (by decide) (x_move H rfl rfl) ?_
      clear H a; intro a H
      refine e_op H rfl rfl (by decide) (x_builtin H rfl rfl (fun cs => bi_app hr8)) ?_
      clear H a; intro a H
      refine e_op H rfl rfl (by decide) (x_move H rfl rfl) ?_
      clear H a; intro a H
      refine e_op H rfl rfl (by decide) (x_builtin H rfl rfl (fun cs => bi_app hrr8)) ?_
      clear H a; intro a H
      refine e_callq H rfl rfl (by decide) rfl rfl (Tryd.call16 _) (dsum_any bb8 (min m0 300 + min m1 300) dd8 (p0 ++ p1) vv8 OO8.bs hob8.1 hob8.2 (K0.ext EB8) (by have := EB8.sz; omega) (by omega)) ?_
      clear H a
      rintro e w9 ⟨rfl, E89⟩
      refine ⟨_, rfl, fun a H => ?_⟩
      have E9 := EB8.tr E89
      refine e_op H rfl rfl (by decide) (x_bin H rfl rfl rfl eqg26 (eql26 (c := true) (sha_len _) (sha_len _) (by simp))) ?_
      clear H a; intro a H
      refine e_op H rfl rfl (by decide) (x_assign H rfl rfl) ?_
      clear H a; intro a H
      refine e_nil (hR.out _ _ ?_)
      clear hR R
      refine hK19 _ _ ?_
      clear hK19 K19
      refine wp_ret ?_
      exact ret1 H rfl rfl ⟨rfl, E9⟩
set_option maxHeartbeats 1000000 in
theorem digestPieces_any (a0 a1 : Option Addr) (m0 c0 m1 c1 : Nat) (ask : Bool) (q0 q1 : List UInt8) (W : World) (hp0 : Bs W a0 m0 q0) (hp1 : Bs W a1 m1 q1) (hc0 : m0 ≤ c0) (hm1 : m1 ≤ 140737488351232)
    (hn0 : a0 = none → c0 = 0) (K0 : Kc W) (h0 : 0 < W.heap.size) :
    Calls Tryd.prog 6 #[.slice a0 m0 c0, .slice a1 m1 c1, .bool ask] W fun e w' => e = .returned (.bool true) ∧ Ext W w' := by
  refine calls_has (args := [.slice a0 m0 c0, .slice a1 m1 c1, .bool ask]) Tryd.func6 rfl Tryd.ntmps6 (Nat.le_of_ble_eq_true rfl) (fun a H => ?_)
  simp only [argl, Nat.reduceAdd] at H
  refine wp_seq_k (fun K1 hK1 => ?_)
  refine e_region (fun R hR => ?_)
  refine e_op H rfl rfl (by decide) (x_assign H rfl rfl) ?_
  clear H a; intro a H
  refine e_nil (hR.out _ _ ?_)
  clear hR R
  refine hK1 _ _ ?_
  clear hK1 K1
  refine wp_seq_k (fun K2 hK2 => ?_)
  refine wp_seq_k (fun K3 hK3 => ?_)
  refine e_region (fun R hR => ?_)
  refine e_callq H rfl rfl (by decide) rfl rfl (Tryd.call14 _) (awake_any W K0 h0) ?_
  clear H a
  rintro e w1 ⟨rfl, E1⟩
  refine ⟨_, rfl, fun a H => ?_⟩
  have hs1 := E1.sz
  refine e_op H rfl rfl (by decide) (x_un H rfl rfl (u_not (c := false) (rfl))) ?_
  clear H a; intro a H
  refine e_nil (hR.out _ _ ?_)
  clear hR R
  refine hK3 _ _ ?_
  clear hK3 K3
  refine c_false H rfl ?_
  refine wp_skip ?_
  refine hK2 _ _ ?_
  clear hK2 K2
  refine wp_seq_k (fun K4 hK4 => ?_)
  refine e_region (fun R hR => ?_)
  refine e_op H rfl rfl (by decide) (x_move H rfl rfl) ?_
  clear H a; intro a H
  refine e_callp H rfl rfl (by decide) rfl rfl (Tryd.call15 _) (short_any a0 m0 c0 _ hc0) ?_
  clear H a; intro a H
  refine e_op H rfl rfl (by decide) (x_assign H rfl rfl) ?_
  clear H a; intro a H
  refine e_nil (hR.out _ _ ?_)
  clear hR R
  refine hK4 _ _ ?_
  clear hK4 K4
  refine wp_seq_k (fun K5 hK5 => ?_)
  refine e_region (fun R hR => ?_)
  obtain ⟨mp, hmp⟩ : ∃ mp, mp = min m0 300 := ⟨_, rfl⟩
  rw [← hmp] at H
  obtain ⟨p, B0, e0⟩ := bs_short hp0
  rw [← hmp] at B0
  have l0 := B0.leng
  clear e0
  have hmc : mp ≤ c0 := by omega
  refine e_callq H rfl rfl (by decide) rfl rfl (Tryd.call18 _) (new_any w1) ?_
  clear H a
  rintro e w2 ⟨g, rfl, HI, hg, E2⟩
  refine ⟨_, rfl, fun a H => ?_⟩
  have E3 := E1.tr E2
  have hs3 := E3.sz
  refine e_op H rfl rfl (by decide) (x_assign H rfl rfl) ?_
  clear H a; intro a H
  refine e_nil (hR.out _ _ ?_)
  clear hR R
  refine hK5 _ _ ?_
  clear hK5 K5
  refine wp_seq_k (fun K6 hK6 => ?_)
  refine wp_seq_k (fun K7 hK7 => ?_)
  refine e_region (fun R hR => ?_)
  refine e_op H rfl rfl (by decide) (x_move H rfl rfl) ?_
  clear H a; intro a H
  refine e_op H rfl rfl (by decide) (x_bin H rfl rfl rfl (by rw [eqGuard_at_pointer]; rfl) (b_pnil (c := false) Tryd.underlying30 rfl)) ?_
  clear H a; intro a H
  refine e_nil (hR.out _ _ ?_)
  clear hR R
  refine hK7 _ _ ?_
  clear hK7 K7
  refine c_false H rfl ?_
  refine wp_skip ?_
  refine hK6 _ _ ?_
  clear hK6 K6
  refine wp_seq_k (fun K8 hK8 => ?_)
  refine e_region (fun R hR => ?_)
  refine e_op H rfl rfl (by decide) (x_assign H rfl rfl) ?_
  clear H a; intro a H
  refine e_nil (hR.out _ _ ?_)
  clear hR R
  refine hK8 _ _ ?_
  clear hK8 K8
  refine wp_seq_k (fun K9 hK9 => ?_)
  refine wp_seq_k (fun K10 hK10 => ?_)
  refine e_region (fun R hR => ?_)
  refine e_op H rfl rfl (by decide) (x_move H rfl rfl) ?_
  clear H a; intro a H
  refine e_op H rfl rfl (by decide) (x_builtin H rfl rfl (fun cs => len_sl Tryd.underlying22)) ?_
  clear H a; intro a H
  refine e_op H rfl rfl (by decide) (x_move H rfl rfl) ?_
  clear H a; intro a H
  refine e_nil (hR.out _ _ ?_)
  clear hR R
  refine hK10 _ _ ?_
  clear hK10 K10
  refine wp_block ?_
  refine wp_loop_ghost (fun n a w => ∃ (i at_ : Nat), i ≤ m1 ∧ at_ ≤ mp ∧ n = m1 - i ∧ Has a 86 [(0, .slice a0 mp c0), (2, .bool ask), (7, .pointer (some ⟨g, 0, none⟩)), (8, .int .i64 (at_ : Int)), (19, .slice a1 m1 c1), (20, .int .i64 (m1 : Int)), (21, .int .i64 (i : Int))] ∧ HashIs w g (p.take at_) ∧ Ext W w) (m1) ?_ ?_
  · skip
    exact ⟨0, 0, by omega, by omega, rfl, H.sub ⟨rfl, rfl, rfl, rfl, rfl, rfl, rfl, trivial⟩, by simpa using HI, E3⟩
  · skip
    clear H a HI E3 E2
    intro n a w hI
    obtain ⟨i, at_, hi, hat, rfl, H, HI, E⟩ := hI
    have hsw := E.sz
    rcases (show (i < m1 ∧ i ≠ 20 ∧ ask = false) ∨ (i < m1 ∧ i ≠ 20 ∧ ask = true) ∨ (i < m1 ∧ i = 20) ∨ m1 ≤ i by cases ask <;> simp <;> omega) with ⟨hlt, h20, rfl⟩ | ⟨hlt, h20, rfl⟩ | ⟨hlt, h20⟩ | hge
    · skip
      obtain ⟨bq, oq, rfl, hcq⟩ := hp1.at (by omega)
      have hcv : w.cell? ⟨bq, oq + i, none⟩ = some (.int .u8 (nb q1 i)) := Ext.cell E (hcq i hlt)
      refine wp_seq_k (fun K11 hK11 => ?_)
      refine e_region (fun R hR => ?_)
      refine e_op H rfl rfl (by decide) (x_binI H rfl rfl rfl (b_lss (b := true) (dec_t (by omega)))) ?_
      clear H a; intro a H
      refine e_nil (hR.out _ _ ?_)
      clear hR R
      refine hK11 _ _ ?_
      clear hK11 K11
      refine wp_seq_k (fun K12 hK12 => ?_)
      refine c_true H rfl ?_
      refine wp_skip ?_
      refine hK12 _ _ ?_
      clear hK12 K12
      refine wp_seq_k (fun K13 hK13 => ?_)
      refine wp_block ?_
      refine wp_seq_k (fun K14 hK14 => ?_)
      refine e_region (fun R hR => ?_)
      refine e_op H rfl rfl (by decide) (x_move H rfl rfl) ?_
      clear H a; intro a H
      refine e_op H rfl rfl (by decide) (x_indexAddr H rfl rfl rfl (i_sl (m := i) Tryd.underlying22 Tryd.sizeOf5 rfl hlt)) ?_
      clear H a; intro a H
      refine e_op H rfl rfl (by decide) (x_load H rfl rfl (l_cell Tryd.isAgg5 (hcv))) ?_
      clear H a; intro a H
      refine e_op H rfl rfl (by decide) (x_assign H rfl rfl) ?_
      clear H a; intro a H
      refine e_op H rfl rfl (by decide) (x_assign H rfl rfl) ?_
      clear H a; intro a H
      refine e_nil (hR.out _ _ ?_)
      clear hR R
      obtain ⟨cv, hcv2⟩ : ∃ cv, cv = bt q1 i := ⟨_, rfl⟩
      have hcv3 := bt_lt q1 i
      rw [nb_bt, ← hcv2] at H
      rw [← hcv2] at hcv3
      refine hK14 _ _ ?_
      clear hK14 K14
      refine wp_seq_k (fun K15 hK15 => ?_)
      refine wp_seq_k (fun K16 hK16 => ?_)
      refine e_region (fun R hR => ?_)
      refine e_op H rfl rfl (by decide) (x_move H rfl rfl) ?_
      clear H a; intro a H
      refine e_op H rfl rfl (by decide) (x_binI H rfl rfl rfl (b_eql (b := false) (beq_f (by omega)))) ?_
      clear H a; intro a H
      refine e_nil (hR.out _ _ ?_)
      clear hR R
      refine hK16 _ _ ?_
      clear hK16 K16
      refine c_false H rfl ?_
      refine wp_skip ?_
      refine hK15 _ _ ?_
      clear hK15 K15
      refine wp_seq_k (fun K17 hK17 => ?_)
      refine e_region (fun R hR => ?_)
      obtain ⟨en, hen⟩ : ∃ en, en = min (at_ + cv % 90) mp := ⟨_, rfl⟩
      have hen1 : at_ ≤ en ∧ en ≤ mp := by omega
      refine e_op H rfl rfl (by decide) (x_move H rfl rfl) ?_
      clear H a; intro a H
      refine e_op H rfl rfl (by decide) (x_move H rfl rfl) ?_
      clear H a; intro a H
      refine e_op H rfl rfl (by decide) (x_binI H rfl rfl rfl (b_rem (z := ((cv % 90 : Nat) : Int)) (by decide) (by rw [Int.tmod_eq_emod_of_nonneg (by omega)]; omega))) ?_
      clear H a; intro a H
      refine e_op H rfl rfl (by decide) (x_conv H rfl rfl (c_int (z := ((cv % 90 : Nat) : Int)) Tryd.underlying5 Tryd.underlying3 (wrap_i64_small _ (by omega) (by omega)))) ?_
      clear H a; intro a H
      refine e_op H rfl rfl (by decide) (x_binI H rfl rfl rfl (b_add (z := ((at_ + cv % 90 : Nat) : Int)) (by rw [IntKind.wrap_i64]; omega))) ?_
      clear H a; intro a H
      refine e_op H rfl rfl (by decide) (x_move H rfl rfl) ?_
      clear H a; intro a H
      refine e_op H rfl rfl (by decide) (x_builtin H rfl rfl (fun cs => len_sl Tryd.underlying22)) ?_
      clear H a; intro a H
      refine e_op H rfl rfl (by decide) (x_builtin H rfl rfl (fun cs => bi_min (z := ((en : Nat) : Int)) (by rw [hen]; split <;> omega))) ?_
      clear H a; intro a H
      refine e_op H rfl rfl (by decide) (x_assign H rfl rfl) ?_
      clear H a; intro a H
      refine e_nil (hR.out _ _ ?_)
      clear hR R
      refine hK17 _ _ ?_
      clear hK17 K17
      refine wp_seq_k (fun K18 hK18 => ?_)
      refine e_region (fun R hR => ?_)
      refine e_op H rfl rfl (by decide) (x_move H rfl rfl) ?_
      clear H a; intro a H
      refine e_op H rfl rfl (by decide) (x_move H rfl rfl) ?_
      clear H a; intro a H
      refine e_op H rfl rfl (by decide) (x_move H rfl rfl) ?_
      clear H a; intro a H
      refine e_op H rfl rfl (by decide) (x_move H rfl rfl) ?_
      clear H a; intro a H
      refine e_op H rfl rfl (by decide) (x_slice H rfl rfl rfl rfl (sl_lh (lo := at_) (hi := en) Tryd.underlying22 Tryd.sizeOf5 rfl rfl (by omega) (by omega))) ?_
      clear H a; intro a H
      refine e_callq H rfl rfl (by decide) rfl rfl (Tryd.call19 _) (write_any g (p.take at_) ((p.drop at_).take (en - at_)) _ _ _ w HI (Sv.old (B0.cut2 hmc at_ en (by omega) (by omega)) E (by omega) (cutA_nil hn0 at_) (by omega)) (K0.ext E) (by omega) (by rw [List.length_take]; omega)) ?_
      clear H a
      rintro e w5 ⟨rfl, HI5, F5⟩
      refine ⟨_, rfl, fun a H => ?_⟩
      rw [← List.take_add, show at_ + (en - at_) = en by omega] at HI5
      have E5 := F5.ext E (fun x hx => by simp only [List.mem_singleton] at hx; omega)
      have hs5 := E5.sz
      have BE : Bs W a0 en (p.take en) := B0.pre en (by omega)
      refine e_nil (hR.out _ _ ?_)
      clear hR R
      refine hK18 _ _ ?_
      clear hK18 K18
      refine wp_seq_k (fun K19 hK19 => ?_)
      refine e_region (fun R hR => ?_)
      refine e_op H rfl rfl (by decide) (x_move H rfl rfl) ?_
      clear H a; intro a H
      refine e_op H rfl rfl (by decide) (x_assign H rfl rfl) ?_
      clear H a; intro a H
      refine e_nil (hR.out _ _ ?_)
      clear hR R
      refine hK19 _ _ ?_
      clear hK19 K19
      refine wp_seq_k (fun K20 hK20 => ?_)
      refine h_start (by kernel_rfl) (fun R hR => ?_)
      have HI6 : HashIs w5.drew g (p.take en) := HI5.ext ((Ext.refl w5).dr)
      have E6 : Ext W w5.drew := E5.dr
      generalize w5.drew = w6 at *
      refine h_take 0 H rfl rfl rfl (by decide) (by kernel_rfl) (by kernel_rfl) (by kernel_rfl) (fun w' hSw => (x_move H rfl rfl)) ?_
      clear H a; intro a H
      refine h_take 1 H rfl rfl rfl (by decide) (by kernel_rfl) (by kernel_rfl) (by kernel_rfl) (fun w' hSw => (x_move H rfl rfl)) ?_
      clear H a; intro a H
      refine h_skip 2 H rfl (wanted_false H rfl rfl rfl rfl) rfl (by decide) (by kernel_rfl) (by kernel_rfl) (by kernel_rfl) ?_
      clear H a; intro a H
      refine h_skip 3 H rfl (wanted_false H rfl rfl rfl rfl) rfl (by decide) (by kernel_rfl) (by kernel_rfl) (by kernel_rfl) ?_
      clear H a; intro a H
      refine h_skip 4 H rfl (wanted_false H rfl rfl rfl rfl) rfl (by decide) (by kernel_rfl) (by kernel_rfl) (by kernel_rfl) ?_
      clear H a; intro a H
      refine h_skip 5 H rfl (wanted_false H rfl rfl rfl rfl) rfl (by decide) (by kernel_rfl) (by kernel_rfl) (by kernel_rfl) ?_
      clear H a; intro a H
      refine h_skip 6 H rfl (wanted_false H rfl rfl rfl rfl) rfl (by decide) (by kernel_rfl) (by kernel_rfl) (by kernel_rfl) ?_
      clear H a; intro a H
      refine h_skip 7 H rfl (wanted_false H rfl rfl rfl rfl) rfl (by decide) (by kernel_rfl) (by kernel_rfl) (by kernel_rfl) ?_
      clear H a; intro a H
      refine h_skip 8 H rfl (wanted_false H rfl rfl rfl rfl) rfl (by decide) (by kernel_rfl) (by kernel_rfl) (by kernel_rfl) ?_
      clear H a; intro a H
      refine h_take 9 H rfl rfl rfl (by decide) (by kernel_rfl) (by kernel_rfl) (by kernel_rfl) (fun w' hSw => (x_pickF H rfl rfl rfl)) ?_
      clear H a; intro a H
      refine h_take 10 H rfl rfl rfl (by decide) (by kernel_rfl) (by kernel_rfl) (by kernel_rfl) (fun w' hSw => (x_move H rfl rfl)) ?_
      clear H a; intro a H
      refine h_takeg 11 H rfl (wanted_true H rfl rfl rfl rfl) rfl (by decide) (by kernel_rfl) (by kernel_rfl) (by kernel_rfl) (fun w' hSw => (x_move H rfl rfl)) ?_
      clear H a; intro a H
      refine h_takeg 13 H rfl (wanted_true H rfl rfl rfl rfl) rfl (by decide) (by kernel_rfl) (by kernel_rfl) (by kernel_rfl) (fun w' hSw => (x_move H rfl rfl)) ?_
      clear H a; intro a H
      refine h_takeg 14 H rfl (wanted_true H rfl rfl rfl rfl) rfl (by decide) (by kernel_rfl) (by kernel_rfl) (by kernel_rfl) (fun w' hSw => (x_conv H rfl rfl (c_int (z := (en : Int)) Tryd.underlying3 Tryd.underlying39 (wrap_u64_small _ (by omega) (by omega))))) ?_
      clear H a; intro a H
      refine h_call 12 H rfl (by kernel_rfl) (wanted_true H rfl rfl rfl rfl) rfl (by decide) rfl rfl (Tryd.call24 _) (len_any g (p.take en) w6 HI6) ?_
      clear H a
      rintro e w9 ⟨rfl, rfl⟩
      refine ⟨_, rfl, Ext.refl _, fun a H => ?_⟩
      refine h_takeg 15 H rfl (wanted_true H rfl rfl rfl rfl) rfl (by decide) (by kernel_rfl) (by kernel_rfl) (by kernel_rfl) (fun w' hSw => (x_binI H rfl rfl rfl (b_neq (b := false) (bne_f (by rw [List.length_take]; omega))))) ?_
      clear H a; intro a H
      refine h_take 16 H rfl rfl rfl (by decide) (by kernel_rfl) (by kernel_rfl) (by kernel_rfl) (fun w' hSw => (x_pickF H rfl rfl rfl)) ?_
      clear H a; intro a H
      refine h_done (by kernel_rfl) (hR.out _ _ ?_)
      clear hR R
      have HJ := HI6
      have EJ := E6
      refine hK20 _ _ ?_
      clear hK20 K20
      refine c_false H rfl ?_
      refine wp_skip ?_
      refine hK13 _ _ ?_
      clear hK13 K13
      refine e_region (fun R hR => ?_)
      refine e_op H rfl rfl (by decide) (x_binI H rfl rfl rfl (b_add (z := ((i + 1 : Nat) : Int)) (by rw [IntKind.wrap_i64]; omega))) ?_
      clear H a; intro a H
      refine e_op H rfl rfl (by decide) (x_move H rfl rfl) ?_
      clear H a; intro a H
      refine e_nil (hR.out _ _ ?_)
      clear hR R
      exact ⟨m1 - (i + 1), by omega, i + 1, en, by omega, by omega, rfl, H.sub ⟨rfl, rfl, rfl, rfl, rfl, rfl, rfl, trivial⟩, HJ, EJ⟩
    · skip
      obtain ⟨bq, oq, rfl, hcq⟩ := hp1.at (by omega)
      have hcv : w.cell? ⟨bq, oq + i, none⟩ = some (.int .u8 (nb q1 i)) := Ext.cell E (hcq i hlt)
      refine wp_seq_k (fun K21 hK21 => ?_)
      refine e_region (fun R hR => ?_)
      refine e_op H rfl rfl (by decide) (x_binI H rfl rfl rfl (b_lss (b := true) (dec_t (by omega)))) ?_
      clear H a; intro a H
      refine e_nil (hR.out _ _ ?_)
      clear hR R
      refine hK21 _ _ ?_
      clear hK21 K21
      refine wp_seq_k (fun K22 hK22 => ?_)
      refine c_true H rfl ?_
      refine wp_skip ?_
      refine hK22 _ _ ?_
      clear hK22 K22
      refine wp_seq_k (fun K23 hK23 => ?_)
      refine wp_block ?_
      refine wp_seq_k (fun K24 hK24 => ?_)
      refine e_region (fun R hR => ?_)
      refine e_op H rfl rfl (by decide) (x_move H rfl rfl) ?_
      clear H a; intro a H
      refine e_op H rfl rfl (by decide) (x_indexAddr H rfl rfl rfl (i_sl (m := i) Tryd.underlying22 Tryd.sizeOf5 rfl hlt)) ?_
      clear H a; intro a H
      refine e_op H rfl rfl (by decide) (x_load H rfl rfl (l_cell Tryd.isAgg5 (hcv))) ?_
      clear H a; intro a H
      refine e_op H rfl rfl (by decide) (x_assign H rfl rfl) ?_
      clear H a; intro a H
      refine e_op H rfl rfl (by decide) (x_assign H rfl rfl) ?_
      clear H a; intro a H
      refine e_nil (hR.out _ _ ?_)
      clear hR R
      obtain ⟨cv, hcv2⟩ : ∃ cv, cv = bt q1 i := ⟨_, rfl⟩
      have hcv3 := bt_lt q1 i
      rw [nb_bt, ← hcv2] at H
      rw [← hcv2] at hcv3
      refine hK24 _ _ ?_
      clear hK24 K24
      refine wp_seq_k (fun K25 hK25 => ?_)
      refine wp_seq_k (fun K26 hK26 => ?_)
      refine e_region (fun R hR => ?_)
      refine e_op H rfl rfl (by decide) (x_move H rfl rfl) ?_
      clear H a; intro a H
      refine e_op H rfl rfl (by decide) (x_binI H rfl rfl rfl (b_eql (b := false) (beq_f (by omega)))) ?_
      clear H a; intro a H
      refine e_nil (hR.out _ _ ?_)
      clear hR R
      refine hK26 _ _ ?_
      clear hK26 K26
      refine c_false H rfl ?_
      refine wp_skip ?_
      refine hK25 _ _ ?_
      clear hK25 K25
      refine wp_seq_k (fun K27 hK27 => ?_)
      refine e_region (fun R hR => ?_)
      obtain ⟨en, hen⟩ : ∃ en, en = min (at_ + cv % 90) mp := ⟨_, rfl⟩
      have hen1 : at_ ≤ en ∧ en ≤ mp := by omega
      refine e_op H rfl rfl (by decide) (x_move H rfl rfl) ?_
      clear H a; intro a H
      refine e_op H rfl rfl (by decide) (x_move H rfl rfl) ?_
      clear H a; intro a H
      refine e_op H rfl rfl (by decide) (x_binI H rfl rfl rfl (b_rem (z := ((cv % 90 : Nat) : Int)) (by decide) (by rw [Int.tmod_eq_emod_of_nonneg (by omega)]; omega))) ?_
      clear H a; intro a H
      refine e_op H rfl rfl (by decide) (x_conv H rfl rfl (c_int (z := ((cv % 90 : Nat) : Int)) Tryd.underlying5 Tryd.underlying3 (wrap_i64_small _ (by omega) (by omega)))) ?_
      clear H a; intro a H
      refine e_op H rfl rfl (by decide) (x_binI H rfl rfl rfl (b_add (z := ((at_ + cv % 90 : Nat) : Int)) (by rw [IntKind.wrap_i64]; omega))) ?_
      clear H a; intro a H
      refine e_op H rfl rfl (by decide) (x_move H rfl rfl) ?_
      clear H a; intro a H
      refine e_op H rfl rfl (by decide) (x_builtin H rfl rfl (fun cs => len_sl Tryd.underlying22)) ?_
      clear H a; intro a H
      refine e_op H rfl rfl (by decide) (x_builtin H rfl rfl (fun cs => bi_min (z := ((en : Nat) : Int)) (by rw [hen]; split <;> omega))) ?_
      clear H a; intro a H
      refine e_op H rfl rfl (by decide) (x_assign H rfl rfl) ?_
      clear H a; intro a H
      refine e_nil (hR.out _ _ ?_)
      clear hR R
      refine hK27 _ _ ?_
      clear hK27 K27
      refine wp_seq_k (fun K28 hK28 => ?_)
      refine e_region (fun R hR => ?_)
      refine e_op H rfl rfl (by decide) (x_move H rfl rfl) ?_
      clear H a; intro a H
      refine e_op H rfl rfl (by decide) (x_move H rfl rfl) ?_
      clear H a; intro a H
      refine e_op H rfl rfl (by decide) (x_move H rfl rfl) ?_
      clear H a; intro a H
      refine e_op H rfl rfl (by decide) (x_move H rfl rfl) ?_
      clear H a; intro a H
      refine e_op H rfl rfl (by decide) (x_slice H rfl rfl rfl rfl (sl_lh (lo := at_) (hi := en) Tryd.underlying22 Tryd.sizeOf5 rfl rfl (by omega) (by omega))) ?_
      clear H a; intro a H
      refine e_callq H rfl rfl (by decide) rfl rfl (Tryd.call19 _) (write_any g (p.take at_) ((p.drop at_).take (en - at_)) _ _ _ w HI (Sv.old (B0.cut2 hmc at_ en (by omega) (by omega)) E (by omega) (cutA_nil hn0 at_) (by omega)) (K0.ext E) (by omega) (by rw [List.length_take]; omega)) ?_
      clear H a
      rintro e w5 ⟨rfl, HI5, F5⟩
      refine ⟨_, rfl, fun a H => ?_⟩
      rw [← List.take_add, show at_ + (en - at_) = en by omega] at HI5
      have E5 := F5.ext E (fun x hx => by simp only [List.mem_singleton] at hx; omega)
      have hs5 := E5.sz
      have BE : Bs W a0 en (p.take en) := B0.pre en (by omega)
      refine e_nil (hR.out _ _ ?_)
      clear hR R
      refine hK28 _ _ ?_
      clear hK28 K28
      refine wp_seq_k (fun K29 hK29 => ?_)
      refine e_region (fun R hR => ?_)
      refine e_op H rfl rfl (by decide) (x_move H rfl rfl) ?_
      clear H a; intro a H
      refine e_op H rfl rfl (by decide) (x_assign H rfl rfl) ?_
      clear H a; intro a H
      refine e_nil (hR.out _ _ ?_)
      clear hR R
      refine hK29 _ _ ?_
      clear hK29 K29
      refine wp_seq_k (fun K30 hK30 => ?_)
      refine h_start (by kernel_rfl) (fun R hR => ?_)
      have HI6 : HashIs w5.drew g (p.take en) := HI5.ext ((Ext.refl w5).dr)
      have E6 : Ext W w5.drew := E5.dr
      generalize w5.drew = w6 at *
      have hs6 := E6.sz
      refine h_take 0 H rfl rfl rfl (by decide) (by kernel_rfl) (by kernel_rfl) (by kernel_rfl) (fun w' hSw => (x_move H rfl rfl)) ?_
      clear H a; intro a H
      refine h_take 1 H rfl rfl rfl (by decide) (by kernel_rfl) (by kernel_rfl) (by kernel_rfl) (fun w' hSw => (x_move H rfl rfl)) ?_
      clear H a; intro a H
      refine h_takeg 2 H rfl (wanted_true H rfl rfl rfl rfl) rfl (by decide) (by kernel_rfl) (by kernel_rfl) (by kernel_rfl) (fun w' hSw => (x_move H rfl rfl)) ?_
      clear H a; intro a H
      refine h_takeg 4 H rfl (wanted_true H rfl rfl rfl rfl) rfl (by decide) (by kernel_rfl) (by kernel_rfl) (by kernel_rfl) (fun w' hSw => (x_move H rfl rfl)) ?_
      clear H a; intro a H
      refine h_takeg 5 H rfl (wanted_true H rfl rfl rfl rfl) rfl (by decide) (by kernel_rfl) (by kernel_rfl) (by kernel_rfl) (fun w' hSw => (x_move H rfl rfl)) ?_
      clear H a; intro a H
      refine h_takeg 6 H rfl (wanted_true H rfl rfl rfl rfl) rfl (by decide) (by kernel_rfl) (by kernel_rfl) (by kernel_rfl) (fun w' hSw => (x_slice H rfl rfl rfl rfl (sl_hi (hi := en) Tryd.underlying22 Tryd.sizeOf5 rfl (by omega)))) ?_
      clear H a; intro a H
      refine h_call 3 H rfl (by kernel_rfl) (wanted_true H rfl rfl rfl rfl) rfl (by decide) rfl rfl (Tryd.call21 _) (sum_any g (p.take en) w6 HI6 (K0.ext E6) (by omega) (by rw [List.length_take]; omega)) ?_
      clear H a
      rintro e w7 ⟨rfl, E67⟩
      refine ⟨_, rfl, E67, fun a H => ?_⟩
      have E7 := E6.tr E67
      have HI7 := HI6.ext E67
      refine h_call 7 H rfl (by kernel_rfl) (wanted_true H rfl rfl rfl rfl) rfl (by decide) rfl rfl (Tryd.call16 _) (dsum_any a0 en c0 (p.take en) w7 (E7.bs BE) (by omega) hn0 (K0.ext E7) (by have := E7.sz; omega) (by omega)) ?_
      clear H a
      rintro e w8 ⟨rfl, E78⟩
      refine ⟨_, rfl, E78, fun a H => ?_⟩
      have E8 := E7.tr E78
      have HI8 := HI7.ext E78
      refine h_takeg 8 H rfl (wanted_true H rfl rfl rfl rfl) rfl (by decide) (by kernel_rfl) (by kernel_rfl) (by kernel_rfl) (fun w' hSw => (x_bin H rfl rfl rfl eqn26 (neq26 (sha_len _)))) ?_
      clear H a; intro a H
      refine h_take 9 H rfl rfl rfl (by decide) (by kernel_rfl) (by kernel_rfl) (by kernel_rfl) (fun w' hSw => (x_pickT H rfl rfl rfl)) ?_
      clear H a; intro a H
      refine h_take 10 H rfl rfl rfl (by decide) (by kernel_rfl) (by kernel_rfl) (by kernel_rfl) (fun w' hSw => (x_move H rfl rfl)) ?_
      clear H a; intro a H
      refine h_takeg 11 H rfl (wanted_true H rfl rfl rfl rfl) rfl (by decide) (by kernel_rfl) (by kernel_rfl) (by kernel_rfl) (fun w' hSw => (x_move H rfl rfl)) ?_
      clear H a; intro a H
      refine h_takeg 13 H rfl (wanted_true H rfl rfl rfl rfl) rfl (by decide) (by kernel_rfl) (by kernel_rfl) (by kernel_rfl) (fun w' hSw => (x_move H rfl rfl)) ?_
      clear H a; intro a H
      refine h_takeg 14 H rfl (wanted_true H rfl rfl rfl rfl) rfl (by decide) (by kernel_rfl) (by kernel_rfl) (by kernel_rfl) (fun w' hSw => (x_conv H rfl rfl (c_int (z := (en : Int)) Tryd.underlying3 Tryd.underlying39 (wrap_u64_small _ (by omega) (by omega))))) ?_
      clear H a; intro a H
      refine h_call 12 H rfl (by kernel_rfl) (wanted_true H rfl rfl rfl rfl) rfl (by decide) rfl rfl (Tryd.call24 _) (len_any g (p.take en) w8 HI8) ?_
      clear H a
      rintro e w9 ⟨rfl, rfl⟩
      refine ⟨_, rfl, Ext.refl _, fun a H => ?_⟩
      refine h_takeg 15 H rfl (wanted_true H rfl rfl rfl rfl) rfl (by decide) (by kernel_rfl) (by kernel_rfl) (by kernel_rfl) (fun w' hSw => (x_binI H rfl rfl rfl (b_neq (b := false) (bne_f (by rw [List.length_take]; omega))))) ?_
      clear H a; intro a H
      refine h_take 16 H rfl rfl rfl (by decide) (by kernel_rfl) (by kernel_rfl) (by kernel_rfl) (fun w' hSw => (x_pickF H rfl rfl rfl)) ?_
      clear H a; intro a H
      refine h_done (by kernel_rfl) (hR.out _ _ ?_)
      clear hR R
      have HJ := HI8
      have EJ := E8
      refine hK30 _ _ ?_
      clear hK30 K30
      refine c_false H rfl ?_
      refine wp_skip ?_
      refine hK23 _ _ ?_
      clear hK23 K23
      refine e_region (fun R hR => ?_)
      refine e_op H rfl rfl (by decide) (x_binI H rfl rfl rfl (b_add (z := ((i + 1 : Nat) : Int)) (by rw [IntKind.wrap_i64]; omega))) ?_
      clear H a; intro a H
      refine e_op H rfl rfl (by decide) (x_move H rfl rfl) ?_
      clear H a; intro a H
      refine e_nil (hR.out _ _ ?_)
      clear hR R
      exact ⟨m1 - (i + 1), by omega, i + 1, en, by omega, by omega, rfl, H.sub ⟨rfl, rfl, rfl, rfl, rfl, rfl, rfl, trivial⟩, HJ, EJ⟩
    · skip
      obtain ⟨bq, oq, rfl, hcq⟩ := hp1.at (by omega)
      have hcv : w.cell? ⟨bq, oq + i, none⟩ = some (.int .u8 (nb q1 i)) := Ext.cell E (hcq i hlt)
      refine wp_seq_k (fun K31 hK31 => ?_)
      refine e_region (fun R hR => ?_)
      refine e_op H rfl rfl (by decide) (x_binI H rfl rfl rfl (b_lss (b := true) (dec_t (by omega)))) ?_
      clear H a; intro a H
      refine e_nil (hR.out _ _ ?_)
      clear hR R
      refine hK31 _ _ ?_
      clear hK31 K31
      refine wp_seq_k (fun K32 hK32 => ?_)
      refine c_true H rfl ?_
      refine wp_skip ?_
      refine hK32 _ _ ?_
      clear hK32 K32
      refine wp_seq_k (fun K33 hK33 => ?_)
      refine wp_block ?_
      refine wp_seq_k (fun K34 hK34 => ?_)
      refine e_region (fun R hR => ?_)
      refine e_op H rfl rfl (by decide) (x_move H rfl rfl) ?_
      clear H a; intro a H
      refine e_op H rfl rfl (by decide) (x_indexAddr H rfl rfl rfl (i_sl (m := i) Tryd.underlying22 Tryd.sizeOf5 rfl hlt)) ?_
      clear H a; intro a H
      refine e_op H rfl rfl (by decide) (x_load H rfl rfl (l_cell Tryd.isAgg5 (hcv))) ?_
      clear H a; intro a H
      refine e_op H rfl rfl (by decide) (x_assign H rfl rfl) ?_
      clear H a; intro a H
      refine e_op H rfl rfl (by decide) (x_assign H rfl rfl) ?_
      clear H a; intro a H
      refine e_nil (hR.out _ _ ?_)
      clear hR R
      obtain ⟨cv, hcv2⟩ : ∃ cv, cv = bt q1 i := ⟨_, rfl⟩
      have hcv3 := bt_lt q1 i
      rw [nb_bt, ← hcv2] at H
      rw [← hcv2] at hcv3
      refine hK34 _ _ ?_
      clear hK34 K34
      refine wp_seq_k (fun K35 hK35 => ?_)
      refine wp_seq_k (fun K36 hK36 => ?_)
      refine e_region (fun R hR => ?_)
      refine e_op H rfl rfl (by decide) (x_move H rfl rfl) ?_
      clear H a; intro a H
      refine e_op H rfl rfl (by decide) (x_binI H rfl rfl rfl (b_eql (b := true) (beq_t (by omega)))) ?_
      clear H a; intro a H
      refine e_nil (hR.out _ _ ?_)
      clear hR R
      refine hK36 _ _ ?_
      clear hK36 K36
      refine c_true H rfl ?_
      refine wp_exit ?_
      refine t_exit ?_
      refine b_pass (by decide) ?_
      refine t_exit ?_
      refine t_exit ?_
      refine b_hit ?_
      clear hK35 K35
      clear hK33 K33
      refine hK9 _ _ ?_
      clear hK9 K9
      refine wp_seq_k (fun K37 hK37 => ?_)
      refine e_region (fun R hR => ?_)
      refine e_op H rfl rfl (by decide) (x_move H rfl rfl) ?_
      clear H a; intro a H
      refine e_op H rfl rfl (by decide) (x_move H rfl rfl) ?_
      clear H a; intro a H
      refine e_op H rfl rfl (by decide) (x_move H rfl rfl) ?_
      clear H a; intro a H
      refine e_op H rfl rfl (by decide) (x_slice H rfl rfl rfl rfl (sl_lo (lo := at_) Tryd.underlying22 Tryd.sizeOf5 rfl (by omega))) ?_
      clear H a; intro a H
      refine e_callq H rfl rfl (by decide) rfl rfl (Tryd.call19 _) (write_any g (p.take at_) (p.drop at_) _ _ _ w HI ((Sv.old B0 E hmc hn0 (by omega)).cut at_ hat) (K0.ext E) (by omega) (by rw [List.length_take]; omega)) ?_
      clear H a
      rintro e w5 ⟨rfl, HI5, F5⟩
      refine ⟨_, rfl, fun a H => ?_⟩
      rw [List.take_append_drop] at HI5
      have E5 := F5.ext E (fun x hx => by simp only [List.mem_singleton] at hx; omega)
      have hs5 := E5.sz
      refine e_nil (hR.out _ _ ?_)
      clear hR R
      refine hK37 _ _ ?_
      clear hK37 K37
      refine wp_seq_k (fun K38 hK38 => ?_)
      refine e_region (fun R hR => ?_)
      refine e_op H rfl rfl (by decide) (x_move H rfl rfl) ?_
      clear H a; intro a H
      refine e_callq H rfl rfl (by decide) rfl rfl (Tryd.call21 _) (sum_any g p w5 HI5 (K0.ext E5) (by omega) (by omega)) ?_
      clear H a
      rintro e w6 ⟨rfl, E56⟩
      refine ⟨_, rfl, fun a H => ?_⟩
      have E6 := E5.tr E56
      have HI6 := HI5.ext E56
      have hs6 := E6.sz
      refine e_op H rfl rfl (by decide) (x_move H rfl rfl) ?_
      clear H a; intro a H
      refine e_callq H rfl rfl (by decide) rfl rfl (Tryd.call17 _) (refsum_any a0 mp c0 p w6 (E6.bs B0) hn0 (by omega)) ?_
      clear H a
      rintro e w7 ⟨rfl, E67⟩
      refine ⟨_, rfl, fun a H => ?_⟩
      have E7 := E6.tr E67
      have HI7 := HI6.ext E67
      have hs7 := E7.sz
      refine e_op H rfl rfl (by decide) (x_bin H rfl rfl rfl eqg26 (eql26 (c := true) (sha_len _) (sha_len _) (by simp))) ?_
      clear H a; intro a H
      refine e_op H rfl rfl (by decide) (x_move H rfl rfl) ?_
      clear H a; intro a H
      refine e_opg H (wanted_true H rfl rfl rfl rfl) rfl (by decide) (x_move H rfl rfl) ?_
      clear H a; intro a H
      refine e_callqg H (wanted_true H rfl rfl rfl rfl) rfl (by decide) rfl rfl (Tryd.call21 _) (sum_any g p w7 HI7 (K0.ext E7) (by omega) (by omega)) ?_
      clear H a
      rintro e w8 ⟨rfl, E78⟩
      refine ⟨_, rfl, fun a H => ?_⟩
      have E8 := E7.tr E78
      have HI8 := HI7.ext E78
      have hs8 := E8.sz
      refine e_opg H (wanted_true H rfl rfl rfl rfl) rfl (by decide) (x_move H rfl rfl) ?_
      clear H a; intro a H
      refine e_callqg H (wanted_true H rfl rfl rfl rfl) rfl (by decide) rfl rfl (Tryd.call16 _) (dsum_any a0 mp c0 p w8 (E8.bs B0) hmc hn0 (K0.ext E8) (by omega) (by omega)) ?_
      clear H a
      rintro e w9 ⟨rfl, E89⟩
      refine ⟨_, rfl, fun a H => ?_⟩
      have E9 := E8.tr E89
      have HI9 := HI8.ext E89
      refine e_opg H (wanted_true H rfl rfl rfl rfl) rfl (by decide) (x_bin H rfl rfl rfl eqg26 (eql26 (c := true) (sha_len _) (sha_len _) (by simp))) ?_
      clear H a; intro a H
      refine e_op H rfl rfl (by decide) (x_pickT H rfl rfl rfl) ?_
      clear H a; intro a H
      refine e_op H rfl rfl (by decide) (x_move H rfl rfl) ?_
      clear H a; intro a H
      refine e_opg H (wanted_true H rfl rfl rfl rfl) rfl (by decide) (x_move H rfl rfl) ?_
      clear H a; intro a H
      refine e_callqg H (wanted_true H rfl rfl rfl rfl) rfl (by decide) rfl rfl (Tryd.call24 _) (len_any g p w9 HI9) ?_
      clear H a
      rintro e w10 ⟨rfl, rfl⟩
      refine ⟨_, rfl, fun a H => ?_⟩
      refine e_opg H (wanted_true H rfl rfl rfl rfl) rfl (by decide) (x_move H rfl rfl) ?_
      clear H a; intro a H
      refine e_opg H (wanted_true H rfl rfl rfl rfl) rfl (by decide) (x_builtin H rfl rfl (fun cs => len_sl Tryd.underlying22)) ?_
      clear H a; intro a H
      refine e_opg H (wanted_true H rfl rfl rfl rfl) rfl (by decide) (x_conv H rfl rfl (c_int (z := (mp : Int)) Tryd.underlying3 Tryd.underlying39 (wrap_u64_small _ (by omega) (by omega)))) ?_
      clear H a; intro a H
      refine e_opg H (wanted_true H rfl rfl rfl rfl) rfl (by decide) (x_binI H rfl rfl rfl (b_eql (b := true) (beq_t (by rw [l0])))) ?_
      clear H a; intro a H
      refine e_op H rfl rfl (by decide) (x_pickT H rfl rfl rfl) ?_
      clear H a; intro a H
      refine e_op H rfl rfl (by decide) (x_assign H rfl rfl) ?_
      clear H a; intro a H
      refine e_nil (hR.out _ _ ?_)
      clear hR R
      refine hK38 _ _ ?_
      clear hK38 K38
      refine wp_ret ?_
      exact ret1 H rfl rfl ⟨rfl, E9⟩
    · skip
      skip
      refine wp_seq_k (fun K39 hK39 => ?_)
      refine e_region (fun R hR => ?_)
      refine e_op H rfl rfl (by decide) (x_binI H rfl rfl rfl (b_lss (b := false) (dec_f (by omega)))) ?_
      clear H a; intro a H
      refine e_nil (hR.out _ _ ?_)
      clear hR R
      refine hK39 _ _ ?_
      clear hK39 K39
      refine wp_seq_k (fun K40 hK40 => ?_)
      refine c_false H rfl ?_
      refine wp_exit ?_
      refine t_exit ?_
      refine t_exit ?_
      refine b_hit ?_
      clear hK40 K40
      refine hK9 _ _ ?_
      clear hK9 K9
      refine wp_seq_k (fun K41 hK41 => ?_)
      refine e_region (fun R hR => ?_)
      refine e_op H rfl rfl (by decide) (x_move H rfl rfl) ?_
      clear H a; intro a H
      refine e_op H rfl rfl (by decide) (x_move H rfl rfl) ?_
      clear H a; intro a H
      refine e_op H rfl rfl (by decide) (x_move H rfl rfl) ?_
      clear H a; intro a H
      refine e_op H rfl rfl (by decide) (x_slice H rfl rfl rfl rfl (sl_lo (lo := at_) Tryd.underlying22 Tryd.sizeOf5 rfl (by omega))) ?_
      clear H a; intro a H
      refine e_callq H rfl rfl (by decide) rfl rfl (Tryd.call19 _) (write_any g (p.take at_) (p.drop at_) _ _ _ w HI ((Sv.old B0 E hmc hn0 (by omega)).cut at_ hat) (K0.ext E) (by omega) (by rw [List.length_take]; omega)) ?_
      clear H a
      rintro e w5 ⟨rfl, HI5, F5⟩
      refine ⟨_, rfl, fun a H => ?_⟩
      rw [List.take_append_drop] at HI5
      have E5 := F5.ext E (fun x hx => by simp only [List.mem_singleton] at hx; omega)
      have hs5 := E5.sz
      refine e_nil (hR.out _ _ ?_)
      clear hR R
      refine hK41 _ _ ?_
      clear hK41 K41
      refine wp_seq_k (fun K42 hK42 => ?_)
      refine e_region (fun R hR => ?_)
      refine e_op H rfl rfl (by decide) (x_move H rfl rfl) ?_
      clear H a; intro a H
      refine e_callq H rfl rfl (by decide) rfl rfl (Tryd.call21 _) (sum_any g p w5 HI5 (K0.ext E5) (by omega) (by omega)) ?_
      clear H a
      rintro e w6 ⟨rfl, E56⟩
      refine ⟨_, rfl, fun a H => ?_⟩
      have E6 := E5.tr E56
      have HI6 := HI5.ext E56
      have hs6 := E6.sz
      refine e_op H rfl rfl (by decide) (x_move H rfl rfl) ?_
      clear H a; intro a H
      refine e_callq H rfl rfl (by decide) rfl rfl (Tryd.call17 _) (refsum_any a0 mp c0 p w6 (E6.bs B0) hn0 (by omega)) ?_
      clear H a
      rintro e w7 ⟨rfl, E67⟩
      refine ⟨_, rfl, fun a H => ?_⟩
      have E7 := E6.tr E67
      have HI7 := HI6.ext E67
      have hs7 := E7.sz
      refine e_op H rfl rfl (by decide) (x_bin H rfl rfl rfl eqg26 (eql26 (c := true) (sha_len _) (sha_len _) (by simp))) ?_
      clear H a; intro a H
      refine e_op H rfl rfl (by decide) (x_move H rfl rfl) ?_
      clear H a; intro a H
      refine e_opg H (wanted_true H rfl rfl rfl rfl) rfl (by decide) (x_move H rfl rfl) ?_
      clear H a; intro a H
      refine e_callqg H (wanted_true H rfl rfl rfl rfl) rfl (by decide) rfl rfl (Tryd.call21 _) (sum_any g p w7 HI7 (K0.ext E7) (by omega) (by omega)) ?_
      clear H a
      rintro e w8 ⟨rfl, E78⟩
      refine ⟨_, rfl, fun a H => ?_⟩
      have E8 := E7.tr E78
      have HI8 := HI7.ext E78
      have hs8 := E8.sz
      refine e_opg H (wanted_true H rfl rfl rfl rfl) rfl (by decide) (x_move H rfl rfl) ?_
      clear H a; intro a H
      refine e_callqg H (wanted_true H rfl rfl rfl rfl) rfl (by decide) rfl rfl (Tryd.call16 _) (dsum_any a0 mp c0 p w8 (E8.bs B0) hmc hn0 (K0.ext E8) (by omega) (by omega)) ?_
      clear H a
      rintro e w9 ⟨rfl, E89⟩
      refine ⟨_, rfl, fun a H => ?_⟩
      have E9 := E8.tr E89
      have HI9 := HI8.ext E89
      refine e_opg H (wanted_true H rfl rfl rfl rfl) rfl (by decide) (x_bin H rfl rfl rfl eqg26 (eql26 (c := true) (sha_len _) (sha_len _) (by simp))) ?_
      clear H a; intro a H
      refine e_op H rfl rfl (by decide) (x_pickT H rfl rfl rfl) ?_
      clear H a; intro a H
      refine e_op H rfl rfl (by decide) (x_move H rfl rfl) ?_
      clear H a; intro a H
      refine e_opg H (wanted_true H rfl rfl rfl rfl) rfl (by decide) (x_move H rfl rfl) ?_
      clear H a; intro a H
      refine e_callqg H (wanted_true H rfl rfl rfl rfl) rfl (by decide) rfl rfl (Tryd.call24 _) (len_any g p w9 HI9) ?_
      clear H a
      rintro e w10 ⟨rfl, rfl⟩
      refine ⟨_, rfl, fun a H => ?_⟩
      refine e_opg H (wanted_true H rfl rfl rfl rfl) rfl (by decide) (x_move H rfl rfl) ?_
      clear H a; intro a H
      refine e_opg H (wanted_true H rfl rfl rfl rfl) rfl (by decide) (x_builtin H rfl rfl (fun cs => len_sl Tryd.underlying22)) ?_
      clear H a; intro a H
      refine e_opg H (wanted_true H rfl rfl rfl rfl) rfl (by decide) (x_conv H rfl rfl (c_int (z := (mp : Int)) Tryd.underlying3 Tryd.underlying39 (wrap_u64_small _ (by omega) (by omega)))) ?_
      clear H a; intro a H
      refine e_opg H (wanted_true H rfl rfl rfl rfl) rfl (by decide) (x_binI H rfl rfl rfl (b_eql (b := true) (beq_t (by rw [l0])))) ?_
      clear H a; intro a H
      refine e_op H rfl rfl (by decide) (x_pickT H rfl rfl rfl) ?_
      clear H a; intro a H
      refine e_op H rfl rfl (by decide) (x_assign H rfl rfl) ?_
      clear H a; intro a H
      refine e_nil (hR.out _ _ ?_)
      clear hR R
      refine hK42 _ _ ?_
      clear hK42 K42
      refine wp_ret ?_
      exact ret1 H rfl rfl ⟨rfl, E9⟩
end Go.Proofs.YtknllmcpogoeoaaDoor
