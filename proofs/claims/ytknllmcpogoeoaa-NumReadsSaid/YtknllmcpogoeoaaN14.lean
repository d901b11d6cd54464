/- NumReads, walked. -/
import Derived.Test.YtknllmcpogoeoaaN13
import Derived.Test.YtknllmcpogoeoaaN11
import Derived.Test.YtknllmcpogoeoaaK4
import Derived.Test.YtknllmcpogoeoaaEn
namespace Go.Proofs.Ytknllmcpogoeoaa
open Go.RowKit
set_option linter.unusedVariables false
set_option linter.unusedSimpArgs false
theorem Ow.form0 {w : World} {B : Nat} {a : Option Addr} {n c : Nat} {l : List UInt8} (h : Ow w B a n c l) (hn : 0 < n) : ∃ g, a = some ⟨g, 0, none⟩ ∧ B ≤ g ∧ g < w.heap.size ∧ (∀ k, w.frozen? ⟨g, k, none⟩ = false) := by
  rcases h.form with ⟨rfl, rfl, rfl, rfl⟩ | ⟨g, cur, rfl, hg, hh, r⟩
  · omega
  · refine ⟨g, rfl, hg, (h.lt rfl).2, fun k => ?_⟩
    simp [World.frozen?, hh]
theorem Rd.frm0 {s : List Nat} {w w' : World} {g h : Nat} {l : List UInt8} {e : Nat} (r : Rd w g h l e) (k : Frm s w w') (hg : g ∉ s) (hh : 0 < l.length → h ∉ s) : Rd w' g h l e := by
  obtain ⟨hne, a, n, c, B, S, h1, h2, h3, h4, h5⟩ := r
  have hl := S.leng
  exact ⟨hne, a, n, c, B.frm k hg, S.frm0 k (fun b off e hn => by rw [h3 b off e]; exact hh (by omega)), h1, h2, h3, h4, h5⟩
theorem Rd.apart {w : World} {g h g2 h2 : Nat} {l l' : List UInt8} {e e' : Nat} (r : Rd w g h l e) (q : Rr w g2 h2 l' e') (hl : 0 < l.length) : h ≠ g2 := by
  obtain ⟨hne, a, n, c, B, S, h1, h2, h3, h4, h5⟩ := r
  obtain ⟨_, a', n', c', B', _⟩ := q
  rintro rfl
  have := S.leng
  obtain ⟨b1, o1, e1, hc⟩ := S.cell 0 (by omega)
  obtain rfl := h3 b1 o1 e1
  rw [Nat.add_zero, B'.cell] at hc
  match o1, hc with
  | 0, hc => simp at hc
  | 1, hc => simp at hc
  | k + 2, hc => simp at hc
theorem rsUint_left (l : List UInt8) (er most : Nat) : (rsUint l er most).left.length ≤ l.length := by
  unfold rsUint
  split
  · exact Nat.le_refl _
  · cases rdU l with
    | none => exact Nat.le_refl _
    | some p =>
      obtain ⟨v, n⟩ := p
      dsimp only
      split <;> simp
theorem rsInt_left (l : List UInt8) (er : Nat) : (rsInt l er).left.length ≤ l.length := by
  unfold rsInt
  split
  · exact Nat.le_refl _
  · cases rdU l with
    | none => exact Nat.le_refl _
    | some p =>
      obtain ⟨v, n⟩ := p
      simp
theorem rsSmall_left (l : List UInt8) (er : Nat) (lo hi : Int) : (rsSmall l er lo hi).left.length ≤ l.length := by
  unfold rsSmall
  split
  · exact Nat.le_refl _
  · cases rdU l with
    | none => exact Nat.le_refl _
    | some p =>
      obtain ⟨v, n⟩ := p
      dsimp only
      split <;> simp
theorem rsByte_left (l : List UInt8) (er : Nat) : (rsByte l er).left.length ≤ l.length := by
  unfold rsByte
  split
  · exact Nat.le_refl _
  · cases l <;> simp
theorem rsByte_val (l : List UInt8) (er : Nat) : 0 ≤ (rsByte l er).val ∧ (rsByte l er).val < 256 := by
  unfold rsByte
  split
  · simp
  · cases l with
    | nil => simp
    | cons b r =>
      have := b.toNat_lt
      simp only
      omega
theorem rsBytes_left (l : List UInt8) (er : Nat) (m : Int) : (rsBytes l er m).left.length ≤ l.length := by
  unfold rsBytes
  split
  · exact Nat.le_refl _
  · split <;> simp
theorem rsBytes_body (l : List UInt8) (er : Nat) (m : Int) : (rsBytes l er m).body.length ≤ l.length := by
  unfold rsBytes
  split
  · simp
  · split
    · unfold rdB
      split
      · simp
      · cases rdU l with
        | none => simp
        | some p =>
          obtain ⟨v, n⟩ := p
          dsimp only
          split
          · simp
          · split
            · simp
            · simp only [List.length_take, List.length_drop]; omega
    · simp
theorem Bs.ext0 {w w' : World} {a : Option Addr} {n : Nat} {l : List UInt8} (h : Bs w a n l) (e : Ext w w') : Bs w' a n l := e.bs h
set_option maxRecDepth 100000
theorem dc_t {p : Prop} [Decidable p] (h : p) : decide p = true := decide_eq_true h
theorem dc_f {p : Prop} [Decidable p] (h : ¬ p) : decide p = false := decide_eq_false h
theorem bq_f {i j : Int} (h : i ≠ j) : (i == j) = false := by simpa using h
theorem bn_f {i j : Int} (h : i = j) : (i != j) = false := by simp [h]
set_option maxHeartbeats 4000000 in
theorem numReads_any (a1 a2 : Option Addr) (n1 c1 n2 c2 : Nat) (l : List UInt8) (ss : List Stp) (W : World) (h1 : Bs W a1 n1 l) (h2 : Ss W a2 n2 ss) (hn1 : n1 ≤ 140737488351232) (hn2 : n2 ≤ 140737488351232) (hz1 : a1 = none → c1 = 0) (hnc : n1 ≤ c1) (hok : ∀ s ∈ ss, s.ok) :
    Calls Try.prog 20 #[.slice a1 n1 c1, .slice a2 n2 c2] W (fun e w' => e = .returned (.bool true) ∧ Ext W w') := by
  refine calls_has (args := [.slice a1 n1 c1, .slice a2 n2 c2]) Try.func20 rfl Try.ntmps20 (Nat.le_of_ble_eq_true rfl) (fun a H => ?_)
  simp only [argl, Nat.reduceAdd] at H
  refine wp_seq_k (fun K1 hK1 => ?_)
  refine e_region (fun R hR => ?_)
  refine e_op H rfl rfl (by decide) (x_assign H rfl rfl) ?_
  clear H a; intro a H
  refine e_nil (hR.out _ _ ?_)
  clear hR R
  refine hK1 _ _ ?_
  clear hK1 K1
  refine wp_seq_k (fun K2 hK2 => ?_)
  refine wp_seq_k (fun K3 hK3 => ?_)
  refine e_region (fun R hR => ?_)
  refine e_callq H rfl rfl (by decide) rfl rfl (Try.call44 _) (awake1_any W) ?_
  clear H a
  rintro e w1 ⟨rfl, E1⟩
  refine ⟨_, rfl, fun a H => ?_⟩
  have hb1 := E1.bs h1
  refine e_op H rfl rfl (by decide) (x_un H rfl rfl (u_not (c := false) (rfl))) ?_
  clear H a; intro a H
  refine e_nil (hR.out _ _ ?_)
  clear hR R
  refine hK3 _ _ ?_
  clear hK3 K3
  refine c_false H rfl ?_
  refine wp_skip ?_
  refine hK2 _ _ ?_
  clear hK2 K2
  refine wp_seq_k (fun K4 hK4 => ?_)
  refine e_region (fun R hR => ?_)
  refine e_op H rfl rfl (by decide) (x_buildSlice H rfl rfl (bs0 _)) ?_
  clear H a; intro a H
  have Z := Ow.zero w1 w1.heap.size rfl w1.heap.size (Nat.le_refl _)
  have EZ := (Ext.refl w1).al (.cells #[] 5)
  obtain ⟨a3, c3, wa, hr3, O3, G3⟩ := run_app (w1.alloc (.cells #[] 5)) 22 w1.heap.size (some ⟨w1.heap.size, 0, none⟩) 0 0 [] a1 n1 c1 l Z (EZ.bs hb1) (by omega) (by simp) hz1
  have E3 := EZ.app Z (Nat.le_refl _) G3
  rw [List.nil_append, Nat.zero_add] at O3
  rw [Nat.zero_add] at hr3
  refine e_op H rfl rfl (by decide) (x_move H rfl rfl) ?_
  clear H a; intro a H
  refine e_op H rfl rfl (by decide) (x_builtin H rfl rfl (fun cs => bi_app hr3)) ?_
  clear H a; intro a H
  refine e_op H rfl rfl (by decide) (x_assign H rfl rfl) ?_
  clear H a; intro a H
  refine e_nil (hR.out _ _ ?_)
  clear hR R
  refine hK4 _ _ ?_
  clear hK4 K4
  refine wp_seq_k (fun K5 hK5 => ?_)
  refine e_region (fun R hR => ?_)
  refine e_op H rfl rfl (by decide) (x_move H rfl rfl) ?_
  clear H a; intro a H
  refine e_callq H rfl rfl (by decide) rfl rfl (Try.call77 _) (newReader_any a3 n1 c3 l wa O3.bs O3.cap.2 (by omega)) ?_
  clear H a
  rintro e wn ⟨g, q, rfl, R4, hg, hq, E4⟩
  refine ⟨_, rfl, fun a H => ?_⟩
  refine e_op H rfl rfl (by decide) (x_move H rfl rfl) ?_
  clear H a; intro a H
  refine e_op H rfl rfl (by decide) (x_build H rfl rfl (bld121 _ _ _ _)) ?_
  clear H a; intro a H
  refine e_op H rfl rfl (by decide) (x_box H rfl rfl bx_new) ?_
  clear H a; intro a H
  have hgl : g < wn.heap.size := by
    obtain ⟨_, a, n, c, B, _⟩ := R4
    exact B.lt
  have B5 := Blk.new wn 121 [.slice a1 n1 c1, .int .i64 0]
  have E5 := E4.al (.cells #[.slice a1 n1 c1, .int .i64 0] 121)
  have E45 := (Ext.refl wn).al (.cells #[.slice a1 n1 c1, .int .i64 0] 121)
  have hs5 : (wn.alloc (.cells #[.slice a1 n1 c1, .int .i64 0] 121)).heap.size = wn.heap.size + 1 := by simp
  generalize hw5 : wn.alloc (.cells #[.slice a1 n1 c1, .int .i64 0] 121) = w5 at *
  have hs4 : wa.heap.size ≤ wn.heap.size := E4.sz
  generalize hg2 : wn.heap.size = g2 at *
  have R5 := R4.ext E45
  have O5 := O3.frm (s := []) E5.frm (by simp)
  have E15 := (E1.tr E3).tr E5
  have hs3 : w1.heap.size + 1 ≤ wa.heap.size := by have := G3.size; simpa using this
  have hs1 : W.heap.size ≤ w1.heap.size := E1.sz
  obtain ⟨b3, hb31, hb32, hb33⟩ : ∃ b3, w1.heap.size ≤ b3 ∧ b3 < wa.heap.size ∧ (0 < n1 → a3 = some ⟨b3, 0, none⟩) := by
    by_cases hn : 0 < n1
    · obtain ⟨b, e, hx, hy, _⟩ := O3.form0 hn
      exact ⟨b, hx, hy, fun _ => e⟩
    · exact ⟨w1.heap.size, Nat.le_refl _, by omega, fun h => absurd h hn⟩
  obtain ⟨h, hh, hh3⟩ : ∃ h, h < wa.heap.size ∧ ∀ b off, a1 = some ⟨b, off, none⟩ → 0 < n1 → b = h := by
    by_cases hn : 0 < n1
    · obtain ⟨b, off, rfl, hc⟩ := h1.cell 0 hn
      have := World.block_lt_of_cell? W _ hc
      exact ⟨b, by simp only at this; omega, fun b' off' e _ => by simp only [Option.some.injEq, Addr.mk.injEq] at e; exact e.1.symm⟩
    · exact ⟨w1.heap.size, by omega, fun b off e h0 => absurd h0 hn⟩
  have hgz : W.heap.size ≤ g := by omega
  have hgz2 : W.heap.size ≤ g2 := by omega
  refine e_op H rfl rfl (by decide) (x_assign H rfl rfl) ?_
  clear H a; intro a H
  refine e_op H rfl rfl (by decide) (x_assign H rfl rfl) ?_
  clear H a; intro a H
  refine e_nil (hR.out _ _ ?_)
  clear hR R
  refine hK5 _ _ ?_
  clear hK5 K5
  refine wp_seq_k (fun K6 hK6 => ?_)
  refine wp_seq_k (fun K7 hK7 => ?_)
  refine e_region (fun R hR => ?_)
  refine e_op H rfl rfl (by decide) (x_move H rfl rfl) ?_
  clear H a; intro a H
  refine e_op H rfl rfl (by decide) (x_builtin H rfl rfl (fun cs => len_sl Try.underlying22)) ?_
  clear H a; intro a H
  refine e_op H rfl rfl (by decide) (x_move H rfl rfl) ?_
  clear H a; intro a H
  refine e_nil (hR.out _ _ ?_)
  clear hR R
  refine hK7 _ _ ?_
  clear hK7 K7
  refine wp_block ?_
  refine wp_loop_ghost (fun n a w => ∃ (k : Nat) (l' : List UInt8), k ≤ n1 ∧ n = n1 - k ∧ Has a 162 [(1, .slice a2 n2 c2), (5, .slice a3 n1 c3), (6, .pointer (some ⟨g, 0, none⟩)), (7, .pointer (some ⟨g2, 0, none⟩)), (28, .int .i64 (n1 : Int)), (29, .int .i64 (k : Int))] ∧ Ow w w1.heap.size a3 n1 c3 l' ∧ Frm [b3] w5 w) (n1) ?_ ?_
  · skip
    exact ⟨0, l, by omega, rfl, H.sub ⟨rfl, rfl, rfl, rfl, rfl, rfl, trivial⟩, O5, Frm.refl _ _⟩
  · skip
    clear H a
    intro n a w hI
    obtain ⟨k, l', hk, rfl, H, O, F⟩ := hI
    rcases Nat.lt_or_ge k n1 with hkn | hkn
    · skip
      obtain rfl := hb33 (by omega)
      obtain ⟨b, e, _, _, hfz⟩ := O.form0 (by omega)
      obtain ⟨rfl, _, _⟩ : b3 = b ∧ True ∧ True := by simpa using e
      obtain ⟨b', o', e', hc⟩ := O.bs.cell k hkn
      obtain ⟨rfl, rfl⟩ : b3 = b' ∧ 0 = o' := by simpa using e'
      rw [Nat.zero_add] at hc
      refine wp_seq_k (fun K8 hK8 => ?_)
      refine e_region (fun R hR => ?_)
      refine e_op H rfl rfl (by decide) (x_binI H rfl rfl rfl (b_lss (b := true) (dc_t (by omega)))) ?_
      clear H a; intro a H
      refine e_nil (hR.out _ _ ?_)
      clear hR R
      refine hK8 _ _ ?_
      clear hK8 K8
      refine wp_seq_k (fun K9 hK9 => ?_)
      refine c_true H rfl ?_
      refine wp_skip ?_
      refine hK9 _ _ ?_
      clear hK9 K9
      refine wp_seq_k (fun K10 hK10 => ?_)
      refine wp_block ?_
      refine wp_seq_k (fun K11 hK11 => ?_)
      refine e_region (fun R hR => ?_)
      refine e_op H rfl rfl (by decide) (x_move H rfl rfl) ?_
      clear H a; intro a H
      refine e_op H rfl rfl (by decide) (x_assign H rfl rfl) ?_
      clear H a; intro a H
      refine e_nil (hR.out _ _ ?_)
      clear hR R
      refine hK11 _ _ ?_
      clear hK11 K11
      refine e_region (fun R hR => ?_)
      refine e_op H rfl rfl (by decide) (x_move H rfl rfl) ?_
      clear H a; intro a H
      refine e_op H rfl rfl (by decide) (x_move H rfl rfl) ?_
      clear H a; intro a H
      refine e_op H rfl rfl (by decide) (x_indexAddr H rfl rfl rfl (i_sl0 (m := k) Try.underlying22 Try.sizeOf5 rfl (by omega))) ?_
      clear H a; intro a H
      refine e_op H rfl rfl (by decide) (x_load H rfl rfl (l_cell Try.isAgg5 (hc))) ?_
      clear H a; intro a H
      refine e_op H rfl rfl (by decide) (x_binI H rfl rfl rfl (b_add (z := ((l'[k]?.getD 0 + 1).toNat : Int)) (by rw [IntKind.wrap_u8, UInt8.toNat_add]; simp [nb]))) ?_
      clear H a; intro a H
      refine e_op H rfl rfl (by decide) (x_indexAddr H rfl rfl rfl (i_sl0 (m := k) Try.underlying22 Try.sizeOf5 rfl (by omega))) ?_
      clear H a; intro a H
      refine e_st H rfl rfl (x_store H rfl rfl rfl (st_cell rfl rfl Try.sizeOf5 (hfz k) (by rw [hc]; rfl))) ?_
      have O2 := O.setAt k hkn (l'[k]?.getD 0 + 1) _ rfl
      have F2 := F.st b3 k (.int .u8 ((l'[k]?.getD 0 + 1).toNat : Int)) (.inl (by simp))
      refine e_nil (hR.out _ _ ?_)
      clear hR R
      refine hK10 _ _ ?_
      clear hK10 K10
      refine e_region (fun R hR => ?_)
      refine e_op H rfl rfl (by decide) (x_binI H rfl rfl rfl (b_add (z := ((k + 1 : Nat) : Int)) (by rw [IntKind.wrap_i64]; omega))) ?_
      clear H a; intro a H
      refine e_op H rfl rfl (by decide) (x_move H rfl rfl) ?_
      clear H a; intro a H
      refine e_nil (hR.out _ _ ?_)
      clear hR R
      exact ⟨n1 - (k + 1), by omega, k + 1, _, by omega, rfl, H.sub ⟨rfl, rfl, rfl, rfl, rfl, rfl, trivial⟩, O2, F2⟩
    · skip
      have RW := R5.frm F (by simp; omega) (by simp; omega)
      have BW := B5.frm F (by simp; omega)
      have EW := F.ext E15 (fun x hx => by simp only [List.mem_singleton] at hx; omega)
      have RrW : Rr w g2 h l 0 := ⟨by omega, a1, n1, c1, BW, EW.bs h1, hnc, hz1, hh3, by omega⟩
      refine wp_seq_k (fun K12 hK12 => ?_)
      refine e_region (fun R hR => ?_)
      refine e_op H rfl rfl (by decide) (x_binI H rfl rfl rfl (b_lss (b := false) (dc_f (by omega)))) ?_
      clear H a; intro a H
      refine e_nil (hR.out _ _ ?_)
      clear hR R
      refine hK12 _ _ ?_
      clear hK12 K12
      refine wp_seq_k (fun K13 hK13 => ?_)
      refine c_false H rfl ?_
      refine wp_exit ?_
      refine t_exit ?_
      refine t_exit ?_
      refine b_hit ?_
      clear hK13 K13
      refine hK6 _ _ ?_
      clear hK6 K6
      refine wp_seq_k (fun K14 hK14 => ?_)
      refine wp_seq_k (fun K15 hK15 => ?_)
      refine e_region (fun R hR => ?_)
      refine e_op H rfl rfl (by decide) (x_assign H rfl rfl) ?_
      clear H a; intro a H
      refine e_nil (hR.out _ _ ?_)
      clear hR R
      refine hK15 _ _ ?_
      clear hK15 K15
      refine wp_block ?_
      refine wp_loop_ghost (fun n a w => ∃ (k : Nat) (ls : List UInt8) (er : Nat), k ≤ n2 ∧ n = n2 - k ∧ Has a 162 [(1, .slice a2 n2 c2), (6, .pointer (some ⟨g, 0, none⟩)), (7, .pointer (some ⟨g2, 0, none⟩)), (9, .int .i64 (k : Int))] ∧ Rd w g q ls er ∧ Rr w g2 h ls er ∧ Ext W w) (n2) ?_ ?_
      · skip
        exact ⟨0, l, 0, by omega, rfl, H.sub ⟨rfl, rfl, rfl, rfl, trivial⟩, RW, RrW, EW⟩
      · skip
        clear H a RW RrW EW BW F O
        intro n a w hI
        clear R5 O5 B5 E15 hs5 hw5 E45 E5 R4 O3 Z EZ G3 hr3 hb1
        obtain ⟨k, ls, er, hk, rfl, H, Rq, Q, E⟩ := hI
        obtain ⟨xk, hxk⟩ : ∃ xk : Int, xk = ((ss[k]?).map Stp.kind).getD 0 := ⟨_, rfl⟩
        have hot : (xk = 0 ∨ xk = 1 ∨ xk = 2 ∨ xk = 3 ∨ xk = 4) ∨ (xk ≠ 0 ∧ xk ≠ 1 ∧ xk ≠ 2 ∧ xk ≠ 3 ∧ xk ≠ 4) := by omega
        rcases (show (k < n2 ∧ k < 60 ∧ xk = 0) ∨ (k < n2 ∧ k < 60 ∧ xk = 1) ∨ (k < n2 ∧ k < 60 ∧ xk = 2) ∨ (k < n2 ∧ k < 60 ∧ xk = 3) ∨ (k < n2 ∧ k < 60 ∧ xk = 4) ∨ (k < n2 ∧ k < 60 ∧ (xk ≠ 0 ∧ xk ≠ 1 ∧ xk ≠ 2 ∧ xk ≠ 3 ∧ xk ≠ 4) ∧ er = 0 ∧ ls.length = 0) ∨ (k < n2 ∧ k < 60 ∧ (xk ≠ 0 ∧ xk ≠ 1 ∧ xk ≠ 2 ∧ xk ≠ 3 ∧ xk ≠ 4) ∧ er = 0 ∧ 0 < ls.length) ∨ (k < n2 ∧ k < 60 ∧ (xk ≠ 0 ∧ xk ≠ 1 ∧ xk ≠ 2 ∧ xk ≠ 3 ∧ xk ≠ 4) ∧ er ≠ 0) ∨ (k < n2 ∧ 60 ≤ k) ∨ n2 ≤ k by omega) with ⟨hk2, hk60, hxx⟩ | ⟨hk2, hk60, hxx⟩ | ⟨hk2, hk60, hxx⟩ | ⟨hk2, hk60, hxx⟩ | ⟨hk2, hk60, hxx⟩ | ⟨hk2, hk60, hxx, her, hll⟩ | ⟨hk2, hk60, hxx, her, hll⟩ | ⟨hk2, hk60, hxx, her⟩ | ⟨hk2, hk60⟩ | hk2
        · skip
          obtain ⟨s, hs⟩ : ∃ s, ss[k]? = some s := ⟨_, List.getElem?_eq_getElem (by rw [h2.leng]; omega)⟩
          obtain ⟨hx1, ht1, hlo, hhi⟩ := hok s (List.mem_of_getElem? hs)
          obtain ⟨b, off, rfl, e0, e1, e2, e3⟩ := h2.cell k s hs
          rw [hs] at hxk
          obtain ⟨x, t, lo, hi⟩ := s
          replace hxk : xk = x := hxk
          simp only at hx1 ht1 hlo hhi e0 e1 e2 e3
          have d0 := E.cell e0
          have d1 := E.cell e1
          have d2 := E.cell e2
          have d3 := E.cell e3
          clear e0 e1 e2 e3
          have hgW : g < w.heap.size := by
            obtain ⟨_, a, n, c, B, _⟩ := Rq
            exact B.lt
          have hgW2 : g2 < w.heap.size := by
            obtain ⟨_, a, n, c, B, _⟩ := Q
            exact B.lt
          have hW0 := E.sz
          have hqb : 0 < ls.length → q < w.heap.size := fun hp => by
            obtain ⟨_, a, n, c, B, S, _, _, h3, _⟩ := Rq
            have := S.leng
            obtain ⟨b1, o1, e1, hc⟩ := S.cell 0 (by omega)
            obtain rfl := h3 b1 o1 e1
            exact World.block_lt_of_cell? w _ hc
          have hrow : ∀ j v, ([.int .i64 x, .int .u64 (t : Int), .int .i64 lo, .int .i64 hi] : List Value)[j]? = some v → w.cell? ⟨b, off + k * 4 + j, none⟩ = some v := by
            intro j v hv
            rcases j with _ | _ | _ | _ | j
            · simp at hv; subst hv; exact d0
            · simp at hv; subst hv; exact d1
            · simp at hv; subst hv; exact d2
            · simp at hv; subst hv; exact d3
            · simp at hv
          obtain rfl : x = 0 := by omega
          refine wp_seq_k (fun K16 hK16 => ?_)
          refine wp_seq_k (fun K17 hK17 => ?_)
          refine e_region (fun R hR => ?_)
          refine e_op H rfl rfl (by decide) (x_move H rfl rfl) ?_
          clear H a; intro a H
          refine e_op H rfl rfl (by decide) (x_move H rfl rfl) ?_
          clear H a; intro a H
          refine e_op H rfl rfl (by decide) (x_builtin H rfl rfl (fun cs => len_sl under118)) ?_
          clear H a; intro a H
          refine e_op H rfl rfl (by decide) (x_binI H rfl rfl rfl (b_lss (b := true) (dc_t (by omega)))) ?_
          clear H a; intro a H
          refine e_op H rfl rfl (by decide) (x_move H rfl rfl) ?_
          clear H a; intro a H
          refine e_opg H (wanted_true H rfl rfl rfl rfl) rfl (by decide) (x_move H rfl rfl) ?_
          clear H a; intro a H
          refine e_opg H (wanted_true H rfl rfl rfl rfl) rfl (by decide) (x_binI H rfl rfl rfl (b_lss (b := true) (dc_t (by omega)))) ?_
          clear H a; intro a H
          refine e_op H rfl rfl (by decide) (x_pickT H rfl rfl rfl) ?_
          clear H a; intro a H
          refine e_nil (hR.out _ _ ?_)
          clear hR R
          refine hK17 _ _ ?_
          clear hK17 K17
          refine c_true H rfl ?_
          refine wp_skip ?_
          refine hK16 _ _ ?_
          clear hK16 K16
          refine wp_seq_k (fun K18 hK18 => ?_)
          refine wp_block ?_
          refine wp_seq_k (fun K19 hK19 => ?_)
          refine e_region (fun R hR => ?_)
          refine e_op H rfl rfl (by decide) (x_move H rfl rfl) ?_
          clear H a; intro a H
          refine e_op H rfl rfl (by decide) (x_move H rfl rfl) ?_
          clear H a; intro a H
          refine e_op H rfl rfl (by decide) (x_indexAddr H rfl rfl rfl (i_slN (m := k) (s := 4) under118 size123 rfl (by omega))) ?_
          clear H a; intro a H
          refine e_op H rfl rfl (by decide) (x_load H rfl rfl (l_part (cs := [.int .i64 0, .int .u64 (t : Int), .int .i64 lo, .int .i64 hi]) isAgg123 size123 hrow)) ?_
          clear H a; intro a H
          refine e_op H rfl rfl (by decide) (x_alloc H rfl (al_new (z123 _))) ?_
          clear H a; intro a H
          have D0 : Blk (w.alloc (.cells #[.int .i64 0, .int .u64 0, .int .i64 0, .int .i64 0] 123)) w.heap.size 123 [.int .i64 0, .int .u64 0, .int .i64 0, .int .i64 0] := Blk.new w 123 _
          have EA0 := (Ext.refl w).al (.cells #[.int .i64 0, .int .u64 0, .int .i64 0, .int .i64 0] 123)
          refine e_st H rfl rfl (x_store H rfl rfl rfl (st_row D0 (by kernel_rfl) rfl (by simp [Value.oneCell']))) ?_
          have k3 := D0.row [.int .i64 0, .int .u64 (t : Int), .int .i64 lo, .int .i64 hi]
          have EA := EA0.row_ (g := w.heap.size) (Nat.le_refl _) #[.int .i64 0, .int .u64 (t : Int), .int .i64 lo, .int .i64 hi]
          obtain ⟨gb, hgb⟩ : ∃ gb, gb = w.heap.size := ⟨_, rfl⟩
          rw [← hgb] at k3 hgW hgW2 hqb H EA hW0 ⊢
          generalize (w.alloc (.cells #[.int .i64 0, .int .u64 0, .int .i64 0, .int .i64 0] 123)).setRow gb #[.int .i64 0, .int .u64 (t : Int), .int .i64 lo, .int .i64 hi] = w3 at *
          have R3 := Rq.ext EA
          have Q3 := Q.ext EA
          have hgb3 := k3.lt
          clear D0 EA0 hrow d0 d1 d2 d3
          have E3W := E.tr EA
          have K1 := rUint_any g q ls er t w3 R3 ht1
          have K2 : ∀ w6, Rr w6 g2 h ls er → Calls Try.prog 85 #[.pointer (some ⟨g2, 0, none⟩), .int .i64 0, .int .u64 (t : Int), .int .i64 lo, .int .i64 hi] w6 (RrPost ((rsUint ls er t).val) [] (rsUint ls er t).left (rsUint ls er t).err g2 h w6) := fun w6 Q6 => rread0 g2 h ls er t lo hi w6 Q6 ht1
          have hlf := rsUint_left ls er t
          generalize rsUint ls er t = rs at *
          obtain ⟨v, lf, ee⟩ := rs
          unfold RsPost at K1
          dsimp only at K1 K2 hlf
          refine e_nil (hR.out _ _ ?_)
          clear hR R
          refine hK19 _ _ ?_
          clear hK19 K19
          refine wp_seq_k (fun K20 hK20 => ?_)
          refine e_region (fun R hR => ?_)
          refine e_op H rfl rfl (by decide) (x_assign H rfl rfl) ?_
          clear H a; intro a H
          refine e_nil (hR.out _ _ ?_)
          clear hR R
          refine hK20 _ _ ?_
          clear hK20 K20
          refine wp_seq_k (fun K21 hK21 => ?_)
          refine e_region (fun R hR => ?_)
          refine e_op H rfl rfl (by decide) (x_assign H rfl rfl) ?_
          clear H a; intro a H
          refine e_nil (hR.out _ _ ?_)
          clear hR R
          refine hK21 _ _ ?_
          clear hK21 K21
          refine wp_seq_k (fun K22 hK22 => ?_)
          refine wp_seq_k (fun K23 hK23 => ?_)
          refine e_region (fun R hR => ?_)
          refine e_op H rfl rfl (by decide) (x_fieldAddr H rfl rfl (fa123_0 _ _)) ?_
          clear H a; intro a H
          refine e_op H rfl rfl (by decide) (x_load H rfl rfl (l_cell Try.isAgg3 (k3.at_ (i := 0) rfl))) ?_
          clear H a; intro a H
          refine e_nil (hR.out _ _ ?_)
          clear hR R
          refine hK23 _ _ ?_
          clear hK23 K23
          refine wp_block ?_
          refine wp_seq_k (fun K24 hK24 => ?_)
          refine e_region (fun R hR => ?_)
          refine e_op H rfl rfl (by decide) (x_binI H rfl rfl rfl (b_eql (b := true) (rfl))) ?_
          clear H a; intro a H
          refine e_op H rfl rfl (by decide) (x_assign H rfl rfl) ?_
          clear H a; intro a H
          refine e_nil (hR.out _ _ ?_)
          clear hR R
          refine hK24 _ _ ?_
          clear hK24 K24
          refine c_true H rfl ?_
          refine e_region (fun R hR => ?_)
          refine e_op H rfl rfl (by decide) (x_move H rfl rfl) ?_
          clear H a; intro a H
          refine e_op H rfl rfl (by decide) (x_fieldAddr H rfl rfl (fa123_1 _ _)) ?_
          clear H a; intro a H
          refine e_op H rfl rfl (by decide) (x_load H rfl rfl (l_cell Try.isAgg56 (k3.at_ (i := 1) rfl))) ?_
          clear H a; intro a H
          refine e_callq H rfl rfl (by decide) rfl rfl (Try.call78 _) (K1) ?_
          clear H a
          rintro e w6 ⟨rfl, R6, F6⟩
          refine ⟨_, rfl, fun a H => ?_⟩
          have k6 := k3.frm F6 (by simp; omega)
          have Q6 := Q3.frm F6 (by simp; omega) (by simp; omega)
          have E6 := F6.ext E3W (fun x hx => by simp only [List.mem_singleton] at hx; omega)
          refine e_op H rfl rfl (by decide) (x_assign H rfl rfl) ?_
          clear H a; intro a H
          refine e_nil (hR.out _ _ ?_)
          clear hR R
          refine hK22 _ _ ?_
          clear hK22 K22
          refine wp_seq_k (fun K25 hK25 => ?_)
          refine e_region (fun R hR => ?_)
          refine e_op H rfl rfl (by decide) (x_move H rfl rfl) ?_
          clear H a; intro a H
          refine e_op H rfl rfl (by decide) (x_fieldAddr H rfl rfl (fa123_0 _ _)) ?_
          clear H a; intro a H
          refine e_op H rfl rfl (by decide) (x_load H rfl rfl (l_cell Try.isAgg3 (k6.at_ (i := 0) rfl))) ?_
          clear H a; intro a H
          refine e_op H rfl rfl (by decide) (x_fieldAddr H rfl rfl (fa123_1 _ _)) ?_
          clear H a; intro a H
          refine e_op H rfl rfl (by decide) (x_load H rfl rfl (l_cell Try.isAgg56 (k6.at_ (i := 1) rfl))) ?_
          clear H a; intro a H
          refine e_op H rfl rfl (by decide) (x_fieldAddr H rfl rfl (fa123_2 _ _)) ?_
          clear H a; intro a H
          refine e_op H rfl rfl (by decide) (x_load H rfl rfl (l_cell Try.isAgg3 (k6.at_ (i := 2) rfl))) ?_
          clear H a; intro a H
          refine e_op H rfl rfl (by decide) (x_fieldAddr H rfl rfl (fa123_3 _ _)) ?_
          clear H a; intro a H
          refine e_op H rfl rfl (by decide) (x_load H rfl rfl (l_cell Try.isAgg3 (k6.at_ (i := 3) rfl))) ?_
          clear H a; intro a H
          refine e_callq H rfl rfl (by decide) rfl rfl (Try.call85 _) (K2 _ Q6) ?_
          clear H a
          rintro e w7 ⟨a7, c7, rfl, b7, Q7, F7⟩
          refine ⟨_, rfl, fun a H => ?_⟩
          have hqa := R6.apart Q6
          have R7 := R6.frm0 F7 (by simp; omega) (fun hp => by have := hqa hp; simpa using this)
          have E7 := F7.ext E6 (fun x hx => by simp only [List.mem_singleton] at hx; omega)
          refine e_op H rfl rfl (by decide) (x_move H rfl rfl) ?_
          clear H a; intro a H
          refine e_op H rfl rfl (by decide) (x_extract H rfl rfl rfl) ?_
          clear H a; intro a H
          refine e_op H rfl rfl (by decide) (x_extract H rfl rfl rfl) ?_
          clear H a; intro a H
          refine e_op H rfl rfl (by decide) (x_assign H rfl rfl) ?_
          clear H a; intro a H
          refine e_op H rfl rfl (by decide) (x_assign H rfl rfl) ?_
          clear H a; intro a H
          refine e_nil (hR.out _ _ ?_)
          clear hR R
          refine hK25 _ _ ?_
          clear hK25 K25
          refine wp_seq_k (fun K26 hK26 => ?_)
          refine wp_seq_k (fun K27 hK27 => ?_)
          refine h_start (by kernel_rfl) (fun R hR => ?_)
          obtain ⟨hne8, a8, n8, c8, B7, S8, i1, i2, i3, i4⟩ := Q7.ext ((Ext.refl w7).dr)
          replace R7 := R7.ext ((Ext.refl w7).dr)
          replace b7 := (Ext.refl w7).dr.bs b7
          replace E7 := E7.dr
          obtain rfl := S8.leng
          generalize w7.drew = wq at *
          refine h_take 0 H rfl rfl rfl (by decide) (by kernel_rfl) (by kernel_rfl) (by kernel_rfl) (fun w' hSw => (x_move H rfl rfl)) ?_
          clear H a; intro a H
          refine h_take 1 H rfl rfl rfl (by decide) (by kernel_rfl) (by kernel_rfl) (by kernel_rfl) (fun w' hSw => (x_move H rfl rfl)) ?_
          clear H a; intro a H
          refine h_take 2 H rfl rfl rfl (by decide) (by kernel_rfl) (by kernel_rfl) (by kernel_rfl) (fun w' hSw => (x_binI H rfl rfl rfl (b_neq (b := false) (bn_f rfl)))) ?_
          clear H a; intro a H
          refine h_take 3 H rfl rfl rfl (by decide) (by kernel_rfl) (by kernel_rfl) (by kernel_rfl) (fun w' hSw => (x_move H rfl rfl)) ?_
          clear H a; intro a H
          refine h_takeg 4 H rfl (wanted_true H rfl rfl rfl rfl) rfl (by decide) (by kernel_rfl) (by kernel_rfl) (by kernel_rfl) (fun w' hSw => (x_move H rfl rfl)) ?_
          clear H a; intro a H
          refine h_takeg 5 H rfl (wanted_true H rfl rfl rfl rfl) rfl (by decide) (by kernel_rfl) (by kernel_rfl) (by kernel_rfl) (fun w' hSw => (x_move H rfl rfl)) ?_
          clear H a; intro a H
          refine h_call 6 H rfl (by kernel_rfl) (wanted_true H rfl rfl rfl rfl) rfl (by decide) rfl rfl (Try.call45 _) (same1_any none 0 0 a7 0 c7 [] [] _ (Bs.nil _ _) b7 (by omega)) ?_
          clear H a
          rintro e w8 ⟨rfl, E8⟩
          refine ⟨.bool true, by simp, E8, fun a H => ?_⟩
          have R8 := R7.ext E8
          have B8 := B7.ext E8
          have S9 := E8.bs S8
          have EC := E7.tr E8
          refine h_takeg 7 H rfl (wanted_true H rfl rfl rfl rfl) rfl (by decide) (by kernel_rfl) (by kernel_rfl) (by kernel_rfl) (fun w' hSw => (x_un H rfl rfl (u_not (c := false) (rfl)))) ?_
          clear H a; intro a H
          refine h_take 8 H rfl rfl rfl (by decide) (by kernel_rfl) (by kernel_rfl) (by kernel_rfl) (fun w' hSw => (x_pickF H rfl rfl rfl)) ?_
          clear H a; intro a H
          refine h_take 9 H rfl rfl rfl (by decide) (by kernel_rfl) (by kernel_rfl) (by kernel_rfl) (fun w' hSw => (x_move H rfl rfl)) ?_
          clear H a; intro a H
          refine h_takeg 10 H rfl (wanted_true H rfl rfl rfl rfl) rfl (by decide) (by kernel_rfl) (by kernel_rfl) (by kernel_rfl) (fun w' hSw => (x_move H rfl rfl)) ?_
          clear H a; intro a H
          refine h_takeg 12 H rfl (wanted_true H rfl rfl rfl rfl) rfl (by decide) (by kernel_rfl) (by kernel_rfl) (by kernel_rfl) (fun w' hSw => (x_move H rfl rfl)) ?_
          clear H a; intro a H
          refine h_takeg 13 H rfl (wanted_true H rfl rfl rfl rfl) rfl (by decide) (by kernel_rfl) (by kernel_rfl) (by kernel_rfl) (fun w' hSw => (x_nilCheck H rfl rfl)) ?_
          clear H a; intro a H
          refine h_takeg 14 H rfl (wanted_true H rfl rfl rfl rfl) rfl (by decide) (by kernel_rfl) (by kernel_rfl) (by kernel_rfl) (fun w' hSw => (x_fieldAddr H rfl rfl (fa121_1 _ _))) ?_
          clear H a; intro a H
          refine h_takeg 15 H rfl (wanted_true H rfl rfl rfl rfl) rfl (by decide) (by kernel_rfl) (by kernel_rfl) (by kernel_rfl) (fun w' hSw => (x_load H rfl rfl (l_cell Try.isAgg3 ((B8.ext hSw).at_ (i := 1) rfl)))) ?_
          clear H a; intro a H
          refine h_call 11 H rfl (by kernel_rfl) (wanted_true H rfl rfl rfl rfl) rfl (by decide) rfl rfl (Try.call86 _) (rErr_any g q lf ee _ R8) ?_
          clear H a
          rintro e w9 ⟨rfl, rfl⟩
          refine ⟨_, rfl, Ext.refl _, fun a H => ?_⟩
          refine h_takeg 16 H rfl (wanted_true H rfl rfl rfl rfl) rfl (by decide) (by kernel_rfl) (by kernel_rfl) (by kernel_rfl) (fun w' hSw => (x_binI H rfl rfl rfl (b_neq (b := false) (bn_f rfl)))) ?_
          clear H a; intro a H
          refine h_take 17 H rfl rfl rfl (by decide) (by kernel_rfl) (by kernel_rfl) (by kernel_rfl) (fun w' hSw => (x_pickF H rfl rfl rfl)) ?_
          clear H a; intro a H
          refine h_take 18 H rfl rfl rfl (by decide) (by kernel_rfl) (by kernel_rfl) (by kernel_rfl) (fun w' hSw => (x_move H rfl rfl)) ?_
          clear H a; intro a H
          refine h_takeg 19 H rfl (wanted_true H rfl rfl rfl rfl) rfl (by decide) (by kernel_rfl) (by kernel_rfl) (by kernel_rfl) (fun w' hSw => (x_move H rfl rfl)) ?_
          clear H a; intro a H
          refine h_takeg 21 H rfl (wanted_true H rfl rfl rfl rfl) rfl (by decide) (by kernel_rfl) (by kernel_rfl) (by kernel_rfl) (fun w' hSw => (x_move H rfl rfl)) ?_
          clear H a; intro a H
          refine h_takeg 22 H rfl (wanted_true H rfl rfl rfl rfl) rfl (by decide) (by kernel_rfl) (by kernel_rfl) (by kernel_rfl) (fun w' hSw => (x_nilCheck H rfl rfl)) ?_
          clear H a; intro a H
          refine h_takeg 23 H rfl (wanted_true H rfl rfl rfl rfl) rfl (by decide) (by kernel_rfl) (by kernel_rfl) (by kernel_rfl) (fun w' hSw => (x_fieldAddr H rfl rfl (fa121_0 _ _))) ?_
          clear H a; intro a H
          refine h_takeg 24 H rfl (wanted_true H rfl rfl rfl rfl) rfl (by decide) (by kernel_rfl) (by kernel_rfl) (by kernel_rfl) (fun w' hSw => (x_load H rfl rfl (l_cell Try.isAgg22 ((B8.ext hSw).at_ (i := 0) rfl)))) ?_
          clear H a; intro a H
          refine h_takeg 25 H rfl (wanted_true H rfl rfl rfl rfl) rfl (by decide) (by kernel_rfl) (by kernel_rfl) (by kernel_rfl) (fun w' hSw => (x_builtin H rfl rfl (fun cs => len_sl Try.underlying22))) ?_
          clear H a; intro a H
          refine h_call 20 H rfl (by kernel_rfl) (wanted_true H rfl rfl rfl rfl) rfl (by decide) rfl rfl (Try.call80 _) (rLeft_any g q lf ee _ R8) ?_
          clear H a
          rintro e w9 ⟨rfl, rfl⟩
          refine ⟨_, rfl, Ext.refl _, fun a H => ?_⟩
          refine h_takeg 26 H rfl (wanted_true H rfl rfl rfl rfl) rfl (by decide) (by kernel_rfl) (by kernel_rfl) (by kernel_rfl) (fun w' hSw => (x_binI H rfl rfl rfl (b_neq (b := false) (bn_f rfl)))) ?_
          clear H a; intro a H
          refine h_take 27 H rfl rfl rfl (by decide) (by kernel_rfl) (by kernel_rfl) (by kernel_rfl) (fun w' hSw => (x_pickF H rfl rfl rfl)) ?_
          clear H a; intro a H
          refine h_done (by kernel_rfl) (hR.out _ _ ?_)
          clear hR R
          have Q8 : Rr w8 g2 h lf ee := ⟨hne8, a8, _, c8, B8, S9, i1, i2, i3, i4⟩
          refine hK27 _ _ ?_
          clear hK27 K27
          refine c_false H rfl ?_
          refine wp_skip ?_
          refine hK26 _ _ ?_
          clear hK26 K26
          refine wp_seq_k (fun K28 hK28 => ?_)
          refine e_region (fun R hR => ?_)
          refine e_op H rfl rfl (by decide) (x_move H rfl rfl) ?_
          clear H a; intro a H
          refine e_op H rfl rfl (by decide) (x_builtin H rfl rfl (fun cs => len_sl Try.underlying22)) ?_
          clear H a; intro a H
          refine e_op H rfl rfl (by decide) (x_move H rfl rfl) ?_
          clear H a; intro a H
          refine e_nil (hR.out _ _ ?_)
          clear hR R
          refine hK28 _ _ ?_
          clear hK28 K28
          refine wp_block ?_
          refine wp_loop_ghost (fun n a w => n = 0 ∧ Has a 162 [(1, .slice (some ⟨b, off, none⟩) n2 c2), (6, .pointer (some ⟨g, 0, none⟩)), (7, .pointer (some ⟨g2, 0, none⟩)), (9, .int .i64 (k : Int)), (151, .int .i64 ((0 : Nat) : Int)), (152, .int .i64 0)] ∧ w = w8) (0) ?_ ?_
          · skip
            exact ⟨rfl, H.sub ⟨rfl, rfl, rfl, rfl, rfl, rfl, trivial⟩, rfl⟩
          · skip
            clear H a
            intro n a w hI
            obtain ⟨rfl, H, rfl⟩ := hI
            skip
            refine wp_seq_k (fun K29 hK29 => ?_)
            refine e_region (fun R hR => ?_)
            refine e_op H rfl rfl (by decide) (x_binI H rfl rfl rfl (b_lss (b := false) (rfl))) ?_
            clear H a; intro a H
            refine e_nil (hR.out _ _ ?_)
            clear hR R
            refine hK29 _ _ ?_
            clear hK29 K29
            refine wp_seq_k (fun K30 hK30 => ?_)
            refine c_false H rfl ?_
            refine wp_exit ?_
            refine t_exit ?_
            refine t_exit ?_
            refine b_hit ?_
            clear hK30 K30
            refine hK18 _ _ ?_
            clear hK18 K18
            refine e_region (fun R hR => ?_)
            refine e_op H rfl rfl (by decide) (x_move H rfl rfl) ?_
            clear H a; intro a H
            refine e_op H rfl rfl (by decide) (x_binI H rfl rfl rfl (b_add (z := ((k + 1 : Nat) : Int)) (by rw [IntKind.wrap_i64]; omega))) ?_
            clear H a; intro a H
            refine e_op H rfl rfl (by decide) (x_assign H rfl rfl) ?_
            clear H a; intro a H
            refine e_nil (hR.out _ _ ?_)
            clear hR R
            exact ⟨n2 - (k + 1), by omega, k + 1, lf, ee, by omega, rfl, H.sub ⟨rfl, rfl, rfl, rfl, trivial⟩, R8, Q8, EC⟩
        · skip
          obtain ⟨s, hs⟩ : ∃ s, ss[k]? = some s := ⟨_, List.getElem?_eq_getElem (by rw [h2.leng]; omega)⟩
          obtain ⟨hx1, ht1, hlo, hhi⟩ := hok s (List.mem_of_getElem? hs)
          obtain ⟨b, off, rfl, e0, e1, e2, e3⟩ := h2.cell k s hs
          rw [hs] at hxk
          obtain ⟨x, t, lo, hi⟩ := s
          replace hxk : xk = x := hxk
          simp only at hx1 ht1 hlo hhi e0 e1 e2 e3
          have d0 := E.cell e0
          have d1 := E.cell e1
          have d2 := E.cell e2
          have d3 := E.cell e3
          clear e0 e1 e2 e3
          have hgW : g < w.heap.size := by
            obtain ⟨_, a, n, c, B, _⟩ := Rq
            exact B.lt
          have hgW2 : g2 < w.heap.size := by
            obtain ⟨_, a, n, c, B, _⟩ := Q
            exact B.lt
          have hW0 := E.sz
          have hqb : 0 < ls.length → q < w.heap.size := fun hp => by
            obtain ⟨_, a, n, c, B, S, _, _, h3, _⟩ := Rq
            have := S.leng
            obtain ⟨b1, o1, e1, hc⟩ := S.cell 0 (by omega)
            obtain rfl := h3 b1 o1 e1
            exact World.block_lt_of_cell? w _ hc
          have hrow : ∀ j v, ([.int .i64 x, .int .u64 (t : Int), .int .i64 lo, .int .i64 hi] : List Value)[j]? = some v → w.cell? ⟨b, off + k * 4 + j, none⟩ = some v := by
            intro j v hv
            rcases j with _ | _ | _ | _ | j
            · simp at hv; subst hv; exact d0
            · simp at hv; subst hv; exact d1
            · simp at hv; subst hv; exact d2
            · simp at hv; subst hv; exact d3
            · simp at hv
          obtain rfl : x = 1 := by omega
          refine wp_seq_k (fun K31 hK31 => ?_)
          refine wp_seq_k (fun K32 hK32 => ?_)
          refine e_region (fun R hR => ?_)
          refine e_op H rfl rfl (by decide) (x_move H rfl rfl) ?_
          clear H a; intro a H
          refine e_op H rfl rfl (by decide) (x_move H rfl rfl) ?_
          clear H a; intro a H
          refine e_op H rfl rfl (by decide) (x_builtin H rfl rfl (fun cs => len_sl under118)) ?_
          clear H a; intro a H
          refine e_op H rfl rfl (by decide) (x_binI H rfl rfl rfl (b_lss (b := true) (dc_t (by omega)))) ?_
          clear H a; intro a H
          refine e_op H rfl rfl (by decide) (x_move H rfl rfl) ?_
          clear H a; intro a H
          refine e_opg H (wanted_true H rfl rfl rfl rfl) rfl (by decide) (x_move H rfl rfl) ?_
          clear H a; intro a H
          refine e_opg H (wanted_true H rfl rfl rfl rfl) rfl (by decide) (x_binI H rfl rfl rfl (b_lss (b := true) (dc_t (by omega)))) ?_
          clear H a; intro a H
          refine e_op H rfl rfl (by decide) (x_pickT H rfl rfl rfl) ?_
          clear H a; intro a H
          refine e_nil (hR.out _ _ ?_)
          clear hR R
          refine hK32 _ _ ?_
          clear hK32 K32
          refine c_true H rfl ?_
          refine wp_skip ?_
          refine hK31 _ _ ?_
          clear hK31 K31
          refine wp_seq_k (fun K33 hK33 => ?_)
          refine wp_block ?_
          refine wp_seq_k (fun K34 hK34 => ?_)
          refine e_region (fun R hR => ?_)
          refine e_op H rfl rfl (by decide) (x_move H rfl rfl) ?_
          clear H a; intro a H
          refine e_op H rfl rfl (by decide) (x_move H rfl rfl) ?_
          clear H a; intro a H
          refine e_op H rfl rfl (by decide) (x_indexAddr H rfl rfl rfl (i_slN (m := k) (s := 4) under118 size123 rfl (by omega))) ?_
          clear H a; intro a H
          refine e_op H rfl rfl (by decide) (x_load H rfl rfl (l_part (cs := [.int .i64 1, .int .u64 (t : Int), .int .i64 lo, .int .i64 hi]) isAgg123 size123 hrow)) ?_
          clear H a; intro a H
          refine e_op H rfl rfl (by decide) (x_alloc H rfl (al_new (z123 _))) ?_
          clear H a; intro a H
          have D0 : Blk (w.alloc (.cells #[.int .i64 0, .int .u64 0, .int .i64 0, .int .i64 0] 123)) w.heap.size 123 [.int .i64 0, .int .u64 0, .int .i64 0, .int .i64 0] := Blk.new w 123 _
          have EA0 := (Ext.refl w).al (.cells #[.int .i64 0, .int .u64 0, .int .i64 0, .int .i64 0] 123)
          refine e_st H rfl rfl (x_store H rfl rfl rfl (st_row D0 (by kernel_rfl) rfl (by simp [Value.oneCell']))) ?_
          have k3 := D0.row [.int .i64 1, .int .u64 (t : Int), .int .i64 lo, .int .i64 hi]
          have EA := EA0.row_ (g := w.heap.size) (Nat.le_refl _) #[.int .i64 1, .int .u64 (t : Int), .int .i64 lo, .int .i64 hi]
          obtain ⟨gb, hgb⟩ : ∃ gb, gb = w.heap.size := ⟨_, rfl⟩
          rw [← hgb] at k3 hgW hgW2 hqb H EA hW0 ⊢
          generalize (w.alloc (.cells #[.int .i64 0, .int .u64 0, .int .i64 0, .int .i64 0] 123)).setRow gb #[.int .i64 1, .int .u64 (t : Int), .int .i64 lo, .int .i64 hi] = w3 at *
          have R3 := Rq.ext EA
          have Q3 := Q.ext EA
          have hgb3 := k3.lt
          clear D0 EA0 hrow d0 d1 d2 d3
          have E3W := E.tr EA
          have K1 := rInt_any g q ls er w3 R3
          have K2 : ∀ w6, Rr w6 g2 h ls er → Calls Try.prog 85 #[.pointer (some ⟨g2, 0, none⟩), .int .i64 1, .int .u64 (t : Int), .int .i64 lo, .int .i64 hi] w6 (RrPost (IntKind.u64.wrap (rsInt ls er).val) [] (rsInt ls er).left (rsInt ls er).err g2 h w6) := fun w6 Q6 => rread1 g2 h ls er t lo hi w6 Q6 ht1
          have hlf := rsInt_left ls er
          generalize rsInt ls er = rs at *
          obtain ⟨v, lf, ee⟩ := rs
          unfold RsPost at K1
          dsimp only at K1 K2 hlf
          refine e_nil (hR.out _ _ ?_)
          clear hR R
          refine hK34 _ _ ?_
          clear hK34 K34
          refine wp_seq_k (fun K35 hK35 => ?_)
          refine e_region (fun R hR => ?_)
          refine e_op H rfl rfl (by decide) (x_assign H rfl rfl) ?_
          clear H a; intro a H
          refine e_nil (hR.out _ _ ?_)
          clear hR R
          refine hK35 _ _ ?_
          clear hK35 K35
          refine wp_seq_k (fun K36 hK36 => ?_)
          refine e_region (fun R hR => ?_)
          refine e_op H rfl rfl (by decide) (x_assign H rfl rfl) ?_
          clear H a; intro a H
          refine e_nil (hR.out _ _ ?_)
          clear hR R
          refine hK36 _ _ ?_
          clear hK36 K36
          refine wp_seq_k (fun K37 hK37 => ?_)
          refine wp_seq_k (fun K38 hK38 => ?_)
          refine e_region (fun R hR => ?_)
          refine e_op H rfl rfl (by decide) (x_fieldAddr H rfl rfl (fa123_0 _ _)) ?_
          clear H a; intro a H
          refine e_op H rfl rfl (by decide) (x_load H rfl rfl (l_cell Try.isAgg3 (k3.at_ (i := 0) rfl))) ?_
          clear H a; intro a H
          refine e_nil (hR.out _ _ ?_)
          clear hR R
          refine hK38 _ _ ?_
          clear hK38 K38
          refine wp_block ?_
          refine wp_seq_k (fun K39 hK39 => ?_)
          refine e_region (fun R hR => ?_)
          refine e_op H rfl rfl (by decide) (x_binI H rfl rfl rfl (b_eql (b := false) (rfl))) ?_
          clear H a; intro a H
          refine e_op H rfl rfl (by decide) (x_assign H rfl rfl) ?_
          clear H a; intro a H
          refine e_nil (hR.out _ _ ?_)
          clear hR R
          refine hK39 _ _ ?_
          clear hK39 K39
          refine c_false H rfl ?_
          refine wp_seq_k (fun K40 hK40 => ?_)
          refine e_region (fun R hR => ?_)
          refine e_op H rfl rfl (by decide) (x_binI H rfl rfl rfl (b_eql (b := true) (rfl))) ?_
          clear H a; intro a H
          refine e_op H rfl rfl (by decide) (x_assign H rfl rfl) ?_
          clear H a; intro a H
          refine e_nil (hR.out _ _ ?_)
          clear hR R
          refine hK40 _ _ ?_
          clear hK40 K40
          refine c_true H rfl ?_
          refine e_region (fun R hR => ?_)
          refine e_op H rfl rfl (by decide) (x_move H rfl rfl) ?_
          clear H a; intro a H
          refine e_callq H rfl rfl (by decide) rfl rfl (Try.call81 _) (K1) ?_
          clear H a
          rintro e w6 ⟨rfl, R6, F6⟩
          refine ⟨_, rfl, fun a H => ?_⟩
          have k6 := k3.frm F6 (by simp; omega)
          have Q6 := Q3.frm F6 (by simp; omega) (by simp; omega)
          have E6 := F6.ext E3W (fun x hx => by simp only [List.mem_singleton] at hx; omega)
          refine e_op H rfl rfl (by decide) (x_conv H rfl rfl (c_int (z := (IntKind.u64.wrap v)) Try.underlying2 Try.underlying56 (rfl))) ?_
          clear H a; intro a H
          refine e_op H rfl rfl (by decide) (x_assign H rfl rfl) ?_
          clear H a; intro a H
          refine e_nil (hR.out _ _ ?_)
          clear hR R
          refine hK37 _ _ ?_
          clear hK37 K37
          refine wp_seq_k (fun K41 hK41 => ?_)
          refine e_region (fun R hR => ?_)
          refine e_op H rfl rfl (by decide) (x_move H rfl rfl) ?_
          clear H a; intro a H
          refine e_op H rfl rfl (by decide) (x_fieldAddr H rfl rfl (fa123_0 _ _)) ?_
          clear H a; intro a H
          refine e_op H rfl rfl (by decide) (x_load H rfl rfl (l_cell Try.isAgg3 (k6.at_ (i := 0) rfl))) ?_
          clear H a; intro a H
          refine e_op H rfl rfl (by decide) (x_fieldAddr H rfl rfl (fa123_1 _ _)) ?_
          clear H a; intro a H
          refine e_op H rfl rfl (by decide) (x_load H rfl rfl (l_cell Try.isAgg56 (k6.at_ (i := 1) rfl))) ?_
          clear H a; intro a H
          refine e_op H rfl rfl (by decide) (x_fieldAddr H rfl rfl (fa123_2 _ _)) ?_
          clear H a; intro a H
          refine e_op H rfl rfl (by decide) (x_load H rfl rfl (l_cell Try.isAgg3 (k6.at_ (i := 2) rfl))) ?_
          clear H a; intro a H
          refine e_op H rfl rfl (by decide) (x_fieldAddr H rfl rfl (fa123_3 _ _)) ?_
          clear H a; intro a H
          refine e_op H rfl rfl (by decide) (x_load H rfl rfl (l_cell Try.isAgg3 (k6.at_ (i := 3) rfl))) ?_
          clear H a; intro a H
          refine e_callq H rfl rfl (by decide) rfl rfl (Try.call85 _) (K2 _ Q6) ?_
          clear H a
          rintro e w7 ⟨a7, c7, rfl, b7, Q7, F7⟩
          refine ⟨_, rfl, fun a H => ?_⟩
          have hqa := R6.apart Q6
          have R7 := R6.frm0 F7 (by simp; omega) (fun hp => by have := hqa hp; simpa using this)
          have E7 := F7.ext E6 (fun x hx => by simp only [List.mem_singleton] at hx; omega)
          refine e_op H rfl rfl (by decide) (x_move H rfl rfl) ?_
          clear H a; intro a H
          refine e_op H rfl rfl (by decide) (x_extract H rfl rfl rfl) ?_
          clear H a; intro a H
          refine e_op H rfl rfl (by decide) (x_extract H rfl rfl rfl) ?_
          clear H a; intro a H
          refine e_op H rfl rfl (by decide) (x_assign H rfl rfl) ?_
          clear H a; intro a H
          refine e_op H rfl rfl (by decide) (x_assign H rfl rfl) ?_
          clear H a; intro a H
          refine e_nil (hR.out _ _ ?_)
          clear hR R
          refine hK41 _ _ ?_
          clear hK41 K41
          refine wp_seq_k (fun K42 hK42 => ?_)
          refine wp_seq_k (fun K43 hK43 => ?_)
          refine h_start (by kernel_rfl) (fun R hR => ?_)
          obtain ⟨hne8, a8, n8, c8, B7, S8, i1, i2, i3, i4⟩ := Q7.ext ((Ext.refl w7).dr)
          replace R7 := R7.ext ((Ext.refl w7).dr)
          replace b7 := (Ext.refl w7).dr.bs b7
          replace E7 := E7.dr
          obtain rfl := S8.leng
          generalize w7.drew = wq at *
          refine h_take 0 H rfl rfl rfl (by decide) (by kernel_rfl) (by kernel_rfl) (by kernel_rfl) (fun w' hSw => (x_move H rfl rfl)) ?_
          clear H a; intro a H
          refine h_take 1 H rfl rfl rfl (by decide) (by kernel_rfl) (by kernel_rfl) (by kernel_rfl) (fun w' hSw => (x_move H rfl rfl)) ?_
          clear H a; intro a H
          refine h_take 2 H rfl rfl rfl (by decide) (by kernel_rfl) (by kernel_rfl) (by kernel_rfl) (fun w' hSw => (x_binI H rfl rfl rfl (b_neq (b := false) (bn_f rfl)))) ?_
          clear H a; intro a H
          refine h_take 3 H rfl rfl rfl (by decide) (by kernel_rfl) (by kernel_rfl) (by kernel_rfl) (fun w' hSw => (x_move H rfl rfl)) ?_
          clear H a; intro a H
          refine h_takeg 4 H rfl (wanted_true H rfl rfl rfl rfl) rfl (by decide) (by kernel_rfl) (by kernel_rfl) (by kernel_rfl) (fun w' hSw => (x_move H rfl rfl)) ?_
          clear H a; intro a H
          refine h_takeg 5 H rfl (wanted_true H rfl rfl rfl rfl) rfl (by decide) (by kernel_rfl) (by kernel_rfl) (by kernel_rfl) (fun w' hSw => (x_move H rfl rfl)) ?_
          clear H a; intro a H
          refine h_call 6 H rfl (by kernel_rfl) (wanted_true H rfl rfl rfl rfl) rfl (by decide) rfl rfl (Try.call45 _) (same1_any none 0 0 a7 0 c7 [] [] _ (Bs.nil _ _) b7 (by omega)) ?_
          clear H a
          rintro e w8 ⟨rfl, E8⟩
          refine ⟨.bool true, by simp, E8, fun a H => ?_⟩
          have R8 := R7.ext E8
          have B8 := B7.ext E8
          have S9 := E8.bs S8
          have EC := E7.tr E8
          refine h_takeg 7 H rfl (wanted_true H rfl rfl rfl rfl) rfl (by decide) (by kernel_rfl) (by kernel_rfl) (by kernel_rfl) (fun w' hSw => (x_un H rfl rfl (u_not (c := false) (rfl)))) ?_
          clear H a; intro a H
          refine h_take 8 H rfl rfl rfl (by decide) (by kernel_rfl) (by kernel_rfl) (by kernel_rfl) (fun w' hSw => (x_pickF H rfl rfl rfl)) ?_
          clear H a; intro a H
          refine h_take 9 H rfl rfl rfl (by decide) (by kernel_rfl) (by kernel_rfl) (by kernel_rfl) (fun w' hSw => (x_move H rfl rfl)) ?_
          clear H a; intro a H
          refine h_takeg 10 H rfl (wanted_true H rfl rfl rfl rfl) rfl (by decide) (by kernel_rfl) (by kernel_rfl) (by kernel_rfl) (fun w' hSw => (x_move H rfl rfl)) ?_
          clear H a; intro a H
          refine h_takeg 12 H rfl (wanted_true H rfl rfl rfl rfl) rfl (by decide) (by kernel_rfl) (by kernel_rfl) (by kernel_rfl) (fun w' hSw => (x_move H rfl rfl)) ?_
          clear H a; intro a H
          refine h_takeg 13 H rfl (wanted_true H rfl rfl rfl rfl) rfl (by decide) (by kernel_rfl) (by kernel_rfl) (by kernel_rfl) (fun w' hSw => (x_nilCheck H rfl rfl)) ?_
          clear H a; intro a H
          refine h_takeg 14 H rfl (wanted_true H rfl rfl rfl rfl) rfl (by decide) (by kernel_rfl) (by kernel_rfl) (by kernel_rfl) (fun w' hSw => (x_fieldAddr H rfl rfl (fa121_1 _ _))) ?_
          clear H a; intro a H
          refine h_takeg 15 H rfl (wanted_true H rfl rfl rfl rfl) rfl (by decide) (by kernel_rfl) (by kernel_rfl) (by kernel_rfl) (fun w' hSw => (x_load H rfl rfl (l_cell Try.isAgg3 ((B8.ext hSw).at_ (i := 1) rfl)))) ?_
          clear H a; intro a H
          refine h_call 11 H rfl (by kernel_rfl) (wanted_true H rfl rfl rfl rfl) rfl (by decide) rfl rfl (Try.call86 _) (rErr_any g q lf ee _ R8) ?_
          clear H a
          rintro e w9 ⟨rfl, rfl⟩
          refine ⟨_, rfl, Ext.refl _, fun a H => ?_⟩
          refine h_takeg 16 H rfl (wanted_true H rfl rfl rfl rfl) rfl (by decide) (by kernel_rfl) (by kernel_rfl) (by kernel_rfl) (fun w' hSw => (x_binI H rfl rfl rfl (b_neq (b := false) (bn_f rfl)))) ?_
          clear H a; intro a H
          refine h_take 17 H rfl rfl rfl (by decide) (by kernel_rfl) (by kernel_rfl) (by kernel_rfl) (fun w' hSw => (x_pickF H rfl rfl rfl)) ?_
          clear H a; intro a H
          refine h_take 18 H rfl rfl rfl (by decide) (by kernel_rfl) (by kernel_rfl) (by kernel_rfl) (fun w' hSw => (x_move H rfl rfl)) ?_
          clear H a; intro a H
          refine h_takeg 19 H rfl (wanted_true H rfl rfl rfl rfl) rfl (by decide) (by kernel_rfl) (by kernel_rfl) (by kernel_rfl) (fun w' hSw => (x_move H rfl rfl)) ?_
          clear H a; intro a H
          refine h_takeg 21 H rfl (wanted_true H rfl rfl rfl rfl) rfl (by decide) (by kernel_rfl) (by kernel_rfl) (by kernel_rfl) (fun w' hSw => (x_move H rfl rfl)) ?_
          clear H a; intro a H
          refine h_takeg 22 H rfl (wanted_true H rfl rfl rfl rfl) rfl (by decide) (by kernel_rfl) (by kernel_rfl) (by kernel_rfl) (fun w' hSw => (x_nilCheck H rfl rfl)) ?_
          clear H a; intro a H
          refine h_takeg 23 H rfl (wanted_true H rfl rfl rfl rfl) rfl (by decide) (by kernel_rfl) (by kernel_rfl) (by kernel_rfl) (fun w' hSw => (x_fieldAddr H rfl rfl (fa121_0 _ _))) ?_
          clear H a; intro a H
          refine h_takeg 24 H rfl (wanted_true H rfl rfl rfl rfl) rfl (by decide) (by kernel_rfl) (by kernel_rfl) (by kernel_rfl) (fun w' hSw => (x_load H rfl rfl (l_cell Try.isAgg22 ((B8.ext hSw).at_ (i := 0) rfl)))) ?_
          clear H a; intro a H
          refine h_takeg 25 H rfl (wanted_true H rfl rfl rfl rfl) rfl (by decide) (by kernel_rfl) (by kernel_rfl) (by kernel_rfl) (fun w' hSw => (x_builtin H rfl rfl (fun cs => len_sl Try.underlying22))) ?_
          clear H a; intro a H
          refine h_call 20 H rfl (by kernel_rfl) (wanted_true H rfl rfl rfl rfl) rfl (by decide) rfl rfl (Try.call80 _) (rLeft_any g q lf ee _ R8) ?_
          clear H a
          rintro e w9 ⟨rfl, rfl⟩
          refine ⟨_, rfl, Ext.refl _, fun a H => ?_⟩
          refine h_takeg 26 H rfl (wanted_true H rfl rfl rfl rfl) rfl (by decide) (by kernel_rfl) (by kernel_rfl) (by kernel_rfl) (fun w' hSw => (x_binI H rfl rfl rfl (b_neq (b := false) (bn_f rfl)))) ?_
          clear H a; intro a H
          refine h_take 27 H rfl rfl rfl (by decide) (by kernel_rfl) (by kernel_rfl) (by kernel_rfl) (fun w' hSw => (x_pickF H rfl rfl rfl)) ?_
          clear H a; intro a H
          refine h_done (by kernel_rfl) (hR.out _ _ ?_)
          clear hR R
          have Q8 : Rr w8 g2 h lf ee := ⟨hne8, a8, _, c8, B8, S9, i1, i2, i3, i4⟩
          refine hK43 _ _ ?_
          clear hK43 K43
          refine c_false H rfl ?_
          refine wp_skip ?_
          refine hK42 _ _ ?_
          clear hK42 K42
          refine wp_seq_k (fun K44 hK44 => ?_)
          refine e_region (fun R hR => ?_)
          refine e_op H rfl rfl (by decide) (x_move H rfl rfl) ?_
          clear H a; intro a H
          refine e_op H rfl rfl (by decide) (x_builtin H rfl rfl (fun cs => len_sl Try.underlying22)) ?_
          clear H a; intro a H
          refine e_op H rfl rfl (by decide) (x_move H rfl rfl) ?_
          clear H a; intro a H
          refine e_nil (hR.out _ _ ?_)
          clear hR R
          refine hK44 _ _ ?_
          clear hK44 K44
          refine wp_block ?_
          refine wp_loop_ghost (fun n a w => n = 0 ∧ Has a 162 [(1, .slice (some ⟨b, off, none⟩) n2 c2), (6, .pointer (some ⟨g, 0, none⟩)), (7, .pointer (some ⟨g2, 0, none⟩)), (9, .int .i64 (k : Int)), (151, .int .i64 ((0 : Nat) : Int)), (152, .int .i64 0)] ∧ w = w8) (0) ?_ ?_
          · skip
            exact ⟨rfl, H.sub ⟨rfl, rfl, rfl, rfl, rfl, rfl, trivial⟩, rfl⟩
          · skip
            clear H a
            intro n a w hI
            obtain ⟨rfl, H, rfl⟩ := hI
            skip
            refine wp_seq_k (fun K45 hK45 => ?_)
            refine e_region (fun R hR => ?_)
            refine e_op H rfl rfl (by decide) (x_binI H rfl rfl rfl (b_lss (b := false) (rfl))) ?_
            clear H a; intro a H
            refine e_nil (hR.out _ _ ?_)
            clear hR R
            refine hK45 _ _ ?_
            clear hK45 K45
            refine wp_seq_k (fun K46 hK46 => ?_)
            refine c_false H rfl ?_
            refine wp_exit ?_
            refine t_exit ?_
            refine t_exit ?_
            refine b_hit ?_
            clear hK46 K46
            refine hK33 _ _ ?_
            clear hK33 K33
            refine e_region (fun R hR => ?_)
            refine e_op H rfl rfl (by decide) (x_move H rfl rfl) ?_
            clear H a; intro a H
            refine e_op H rfl rfl (by decide) (x_binI H rfl rfl rfl (b_add (z := ((k + 1 : Nat) : Int)) (by rw [IntKind.wrap_i64]; omega))) ?_
            clear H a; intro a H
            refine e_op H rfl rfl (by decide) (x_assign H rfl rfl) ?_
            clear H a; intro a H
            refine e_nil (hR.out _ _ ?_)
            clear hR R
            exact ⟨n2 - (k + 1), by omega, k + 1, lf, ee, by omega, rfl, H.sub ⟨rfl, rfl, rfl, rfl, trivial⟩, R8, Q8, EC⟩
        · skip
          obtain ⟨s, hs⟩ : ∃ s, ss[k]? = some s := ⟨_, List.getElem?_eq_getElem (by rw [h2.leng]; omega)⟩
          obtain ⟨hx1, ht1, hlo, hhi⟩ := hok s (List.mem_of_getElem? hs)
          obtain ⟨b, off, rfl, e0, e1, e2, e3⟩ := h2.cell k s hs
          rw [hs] at hxk
          obtain ⟨x, t, lo, hi⟩ := s
          replace hxk : xk = x := hxk
          simp only at hx1 ht1 hlo hhi e0 e1 e2 e3
          have d0 := E.cell e0
          have d1 := E.cell e1
          have d2 := E.cell e2
          have d3 := E.cell e3
          clear e0 e1 e2 e3
          have hgW : g < w.heap.size := by
            obtain ⟨_, a, n, c, B, _⟩ := Rq
            exact B.lt
          have hgW2 : g2 < w.heap.size := by
            obtain ⟨_, a, n, c, B, _⟩ := Q
            exact B.lt
          have hW0 := E.sz
          have hqb : 0 < ls.length → q < w.heap.size := fun hp => by
            obtain ⟨_, a, n, c, B, S, _, _, h3, _⟩ := Rq
            have := S.leng
            obtain ⟨b1, o1, e1, hc⟩ := S.cell 0 (by omega)
            obtain rfl := h3 b1 o1 e1
            exact World.block_lt_of_cell? w _ hc
          have hrow : ∀ j v, ([.int .i64 x, .int .u64 (t : Int), .int .i64 lo, .int .i64 hi] : List Value)[j]? = some v → w.cell? ⟨b, off + k * 4 + j, none⟩ = some v := by
            intro j v hv
            rcases j with _ | _ | _ | _ | j
            · simp at hv; subst hv; exact d0
            · simp at hv; subst hv; exact d1
            · simp at hv; subst hv; exact d2
            · simp at hv; subst hv; exact d3
            · simp at hv
          obtain rfl : x = 2 := by omega
          refine wp_seq_k (fun K47 hK47 => ?_)
          refine wp_seq_k (fun K48 hK48 => ?_)
          refine e_region (fun R hR => ?_)
          refine e_op H rfl rfl (by decide) (x_move H rfl rfl) ?_
          clear H a; intro a H
          refine e_op H rfl rfl (by decide) (x_move H rfl rfl) ?_
          clear H a; intro a H
          refine e_op H rfl rfl (by decide) (x_builtin H rfl rfl (fun cs => len_sl under118)) ?_
          clear H a; intro a H
          refine e_op H rfl rfl (by decide) (x_binI H rfl rfl rfl (b_lss (b := true) (dc_t (by omega)))) ?_
          clear H a; intro a H
          refine e_op H rfl rfl (by decide) (x_move H rfl rfl) ?_
          clear H a; intro a H
          refine e_opg H (wanted_true H rfl rfl rfl rfl) rfl (by decide) (x_move H rfl rfl) ?_
          clear H a; intro a H
          refine e_opg H (wanted_true H rfl rfl rfl rfl) rfl (by decide) (x_binI H rfl rfl rfl (b_lss (b := true) (dc_t (by omega)))) ?_
          clear H a; intro a H
          refine e_op H rfl rfl (by decide) (x_pickT H rfl rfl rfl) ?_
          clear H a; intro a H
          refine e_nil (hR.out _ _ ?_)
          clear hR R
          refine hK48 _ _ ?_
          clear hK48 K48
          refine c_true H rfl ?_
          refine wp_skip ?_
          refine hK47 _ _ ?_
          clear hK47 K47
          refine wp_seq_k (fun K49 hK49 => ?_)
          refine wp_block ?_
          refine wp_seq_k (fun K50 hK50 => ?_)
          refine e_region (fun R hR => ?_)
          refine e_op H rfl rfl (by decide) (x_move H rfl rfl) ?_
          clear H a; intro a H
          refine e_op H rfl rfl (by decide) (x_move H rfl rfl) ?_
          clear H a; intro a H
          refine e_op H rfl rfl (by decide) (x_indexAddr H rfl rfl rfl (i_slN (m := k) (s := 4) under118 size123 rfl (by omega))) ?_
          clear H a; intro a H
          refine e_op H rfl rfl (by decide) (x_load H rfl rfl (l_part (cs := [.int .i64 2, .int .u64 (t : Int), .int .i64 lo, .int .i64 hi]) isAgg123 size123 hrow)) ?_
          clear H a; intro a H
          refine e_op H rfl rfl (by decide) (x_alloc H rfl (al_new (z123 _))) ?_
          clear H a; intro a H
          have D0 : Blk (w.alloc (.cells #[.int .i64 0, .int .u64 0, .int .i64 0, .int .i64 0] 123)) w.heap.size 123 [.int .i64 0, .int .u64 0, .int .i64 0, .int .i64 0] := Blk.new w 123 _
          have EA0 := (Ext.refl w).al (.cells #[.int .i64 0, .int .u64 0, .int .i64 0, .int .i64 0] 123)
          refine e_st H rfl rfl (x_store H rfl rfl rfl (st_row D0 (by kernel_rfl) rfl (by simp [Value.oneCell']))) ?_
          have k3 := D0.row [.int .i64 2, .int .u64 (t : Int), .int .i64 lo, .int .i64 hi]
          have EA := EA0.row_ (g := w.heap.size) (Nat.le_refl _) #[.int .i64 2, .int .u64 (t : Int), .int .i64 lo, .int .i64 hi]
          obtain ⟨gb, hgb⟩ : ∃ gb, gb = w.heap.size := ⟨_, rfl⟩
          rw [← hgb] at k3 hgW hgW2 hqb H EA hW0 ⊢
          generalize (w.alloc (.cells #[.int .i64 0, .int .u64 0, .int .i64 0, .int .i64 0] 123)).setRow gb #[.int .i64 2, .int .u64 (t : Int), .int .i64 lo, .int .i64 hi] = w3 at *
          have R3 := Rq.ext EA
          have Q3 := Q.ext EA
          have hgb3 := k3.lt
          clear D0 EA0 hrow d0 d1 d2 d3
          have E3W := E.tr EA
          have K1 := rSmall_any g q ls er lo hi w3 R3
          have K2 : ∀ w6, Rr w6 g2 h ls er → Calls Try.prog 85 #[.pointer (some ⟨g2, 0, none⟩), .int .i64 2, .int .u64 (t : Int), .int .i64 lo, .int .i64 hi] w6 (RrPost (IntKind.u64.wrap (rsSmall ls er lo hi).val) [] (rsSmall ls er lo hi).left (rsSmall ls er lo hi).err g2 h w6) := fun w6 Q6 => rread2 g2 h ls er t lo hi w6 Q6 ht1
          have hlf := rsSmall_left ls er lo hi
          generalize rsSmall ls er lo hi = rs at *
          obtain ⟨v, lf, ee⟩ := rs
          unfold RsPost at K1
          dsimp only at K1 K2 hlf
          refine e_nil (hR.out _ _ ?_)
          clear hR R
          refine hK50 _ _ ?_
          clear hK50 K50
          refine wp_seq_k (fun K51 hK51 => ?_)
          refine e_region (fun R hR => ?_)
          refine e_op H rfl rfl (by decide) (x_assign H rfl rfl) ?_
          clear H a; intro a H
          refine e_nil (hR.out _ _ ?_)
          clear hR R
          refine hK51 _ _ ?_
          clear hK51 K51
          refine wp_seq_k (fun K52 hK52 => ?_)
          refine e_region (fun R hR => ?_)
          refine e_op H rfl rfl (by decide) (x_assign H rfl rfl) ?_
          clear H a; intro a H
          refine e_nil (hR.out _ _ ?_)
          clear hR R
          refine hK52 _ _ ?_
          clear hK52 K52
          refine wp_seq_k (fun K53 hK53 => ?_)
          refine wp_seq_k (fun K54 hK54 => ?_)
          refine e_region (fun R hR => ?_)
          refine e_op H rfl rfl (by decide) (x_fieldAddr H rfl rfl (fa123_0 _ _)) ?_
          clear H a; intro a H
          refine e_op H rfl rfl (by decide) (x_load H rfl rfl (l_cell Try.isAgg3 (k3.at_ (i := 0) rfl))) ?_
          clear H a; intro a H
          refine e_nil (hR.out _ _ ?_)
          clear hR R
          refine hK54 _ _ ?_
          clear hK54 K54
          refine wp_block ?_
          refine wp_seq_k (fun K55 hK55 => ?_)
          refine e_region (fun R hR => ?_)
          refine e_op H rfl rfl (by decide) (x_binI H rfl rfl rfl (b_eql (b := false) (rfl))) ?_
          clear H a; intro a H
          refine e_op H rfl rfl (by decide) (x_assign H rfl rfl) ?_
          clear H a; intro a H
          refine e_nil (hR.out _ _ ?_)
          clear hR R
          refine hK55 _ _ ?_
          clear hK55 K55
          refine c_false H rfl ?_
          refine wp_seq_k (fun K56 hK56 => ?_)
          refine e_region (fun R hR => ?_)
          refine e_op H rfl rfl (by decide) (x_binI H rfl rfl rfl (b_eql (b := false) (rfl))) ?_
          clear H a; intro a H
          refine e_op H rfl rfl (by decide) (x_assign H rfl rfl) ?_
          clear H a; intro a H
          refine e_nil (hR.out _ _ ?_)
          clear hR R
          refine hK56 _ _ ?_
          clear hK56 K56
          refine c_false H rfl ?_
          refine wp_seq_k (fun K57 hK57 => ?_)
          refine e_region (fun R hR => ?_)
          refine e_op H rfl rfl (by decide) (x_binI H rfl rfl rfl (b_eql (b := true) (rfl))) ?_
          clear H a; intro a H
          refine e_op H rfl rfl (by decide) (x_assign H rfl rfl) ?_
          clear H a; intro a H
          refine e_nil (hR.out _ _ ?_)
          clear hR R
          refine hK57 _ _ ?_
          clear hK57 K57
          refine c_true H rfl ?_
          refine e_region (fun R hR => ?_)
          refine e_op H rfl rfl (by decide) (x_move H rfl rfl) ?_
          clear H a; intro a H
          refine e_op H rfl rfl (by decide) (x_fieldAddr H rfl rfl (fa123_2 _ _)) ?_
          clear H a; intro a H
          refine e_op H rfl rfl (by decide) (x_load H rfl rfl (l_cell Try.isAgg3 (k3.at_ (i := 2) rfl))) ?_
          clear H a; intro a H
          refine e_op H rfl rfl (by decide) (x_fieldAddr H rfl rfl (fa123_3 _ _)) ?_
          clear H a; intro a H
          refine e_op H rfl rfl (by decide) (x_load H rfl rfl (l_cell Try.isAgg3 (k3.at_ (i := 3) rfl))) ?_
          clear H a; intro a H
          refine e_callq H rfl rfl (by decide) rfl rfl (Try.call83 _) (K1) ?_
          clear H a
          rintro e w6 ⟨rfl, R6, F6⟩
          refine ⟨_, rfl, fun a H => ?_⟩
          have k6 := k3.frm F6 (by simp; omega)
          have Q6 := Q3.frm F6 (by simp; omega) (by simp; omega)
          have E6 := F6.ext E3W (fun x hx => by simp only [List.mem_singleton] at hx; omega)
          refine e_op H rfl rfl (by decide) (x_conv H rfl rfl (c_int (z := (IntKind.u64.wrap v)) Try.underlying3 Try.underlying56 (rfl))) ?_
          clear H a; intro a H
          refine e_op H rfl rfl (by decide) (x_assign H rfl rfl) ?_
          clear H a; intro a H
          refine e_nil (hR.out _ _ ?_)
          clear hR R
          refine hK53 _ _ ?_
          clear hK53 K53
          refine wp_seq_k (fun K58 hK58 => ?_)
          refine e_region (fun R hR => ?_)
          refine e_op H rfl rfl (by decide) (x_move H rfl rfl) ?_
          clear H a; intro a H
          refine e_op H rfl rfl (by decide) (x_fieldAddr H rfl rfl (fa123_0 _ _)) ?_
          clear H a; intro a H
          refine e_op H rfl rfl (by decide) (x_load H rfl rfl (l_cell Try.isAgg3 (k6.at_ (i := 0) rfl))) ?_
          clear H a; intro a H
          refine e_op H rfl rfl (by decide) (x_fieldAddr H rfl rfl (fa123_1 _ _)) ?_
          clear H a; intro a H
          refine e_op H rfl rfl (by decide) (x_load H rfl rfl (l_cell Try.isAgg56 (k6.at_ (i := 1) rfl))) ?_
          clear H a; intro a H
          refine e_op H rfl rfl (by decide) (x_fieldAddr H rfl rfl (fa123_2 _ _)) ?_
          clear H a; intro a H
          refine e_op H rfl rfl (by decide) (x_load H rfl rfl (l_cell Try.isAgg3 (k6.at_ (i := 2) rfl))) ?_
          clear H a; intro a H
          refine e_op H rfl rfl (by decide) (x_fieldAddr H rfl rfl (fa123_3 _ _)) ?_
          clear H a; intro a H
          refine e_op H rfl rfl (by decide) (x_load H rfl rfl (l_cell Try.isAgg3 (k6.at_ (i := 3) rfl))) ?_
          clear H a; intro a H
          refine e_callq H rfl rfl (by decide) rfl rfl (Try.call85 _) (K2 _ Q6) ?_
          clear H a
          rintro e w7 ⟨a7, c7, rfl, b7, Q7, F7⟩
          refine ⟨_, rfl, fun a H => ?_⟩
          have hqa := R6.apart Q6
          have R7 := R6.frm0 F7 (by simp; omega) (fun hp => by have := hqa hp; simpa using this)
          have E7 := F7.ext E6 (fun x hx => by simp only [List.mem_singleton] at hx; omega)
          refine e_op H rfl rfl (by decide) (x_move H rfl rfl) ?_
          clear H a; intro a H
          refine e_op H rfl rfl (by decide) (x_extract H rfl rfl rfl) ?_
          clear H a; intro a H
          refine e_op H rfl rfl (by decide) (x_extract H rfl rfl rfl) ?_
          clear H a; intro a H
          refine e_op H rfl rfl (by decide) (x_assign H rfl rfl) ?_
          clear H a; intro a H
          refine e_op H rfl rfl (by decide) (x_assign H rfl rfl) ?_
          clear H a; intro a H
          refine e_nil (hR.out _ _ ?_)
          clear hR R
          refine hK58 _ _ ?_
          clear hK58 K58
          refine wp_seq_k (fun K59 hK59 => ?_)
          refine wp_seq_k (fun K60 hK60 => ?_)
          refine h_start (by kernel_rfl) (fun R hR => ?_)
          obtain ⟨hne8, a8, n8, c8, B7, S8, i1, i2, i3, i4⟩ := Q7.ext ((Ext.refl w7).dr)
          replace R7 := R7.ext ((Ext.refl w7).dr)
          replace b7 := (Ext.refl w7).dr.bs b7
          replace E7 := E7.dr
          obtain rfl := S8.leng
          generalize w7.drew = wq at *
          refine h_take 0 H rfl rfl rfl (by decide) (by kernel_rfl) (by kernel_rfl) (by kernel_rfl) (fun w' hSw => (x_move H rfl rfl)) ?_
          clear H a; intro a H
          refine h_take 1 H rfl rfl rfl (by decide) (by kernel_rfl) (by kernel_rfl) (by kernel_rfl) (fun w' hSw => (x_move H rfl rfl)) ?_
          clear H a; intro a H
          refine h_take 2 H rfl rfl rfl (by decide) (by kernel_rfl) (by kernel_rfl) (by kernel_rfl) (fun w' hSw => (x_binI H rfl rfl rfl (b_neq (b := false) (bn_f rfl)))) ?_
          clear H a; intro a H
          refine h_take 3 H rfl rfl rfl (by decide) (by kernel_rfl) (by kernel_rfl) (by kernel_rfl) (fun w' hSw => (x_move H rfl rfl)) ?_
          clear H a; intro a H
          refine h_takeg 4 H rfl (wanted_true H rfl rfl rfl rfl) rfl (by decide) (by kernel_rfl) (by kernel_rfl) (by kernel_rfl) (fun w' hSw => (x_move H rfl rfl)) ?_
          clear H a; intro a H
          refine h_takeg 5 H rfl (wanted_true H rfl rfl rfl rfl) rfl (by decide) (by kernel_rfl) (by kernel_rfl) (by kernel_rfl) (fun w' hSw => (x_move H rfl rfl)) ?_
          clear H a; intro a H
          refine h_call 6 H rfl (by kernel_rfl) (wanted_true H rfl rfl rfl rfl) rfl (by decide) rfl rfl (Try.call45 _) (same1_any none 0 0 a7 0 c7 [] [] _ (Bs.nil _ _) b7 (by omega)) ?_
          clear H a
          rintro e w8 ⟨rfl, E8⟩
          refine ⟨.bool true, by simp, E8, fun a H => ?_⟩
          have R8 := R7.ext E8
          have B8 := B7.ext E8
          have S9 := E8.bs S8
          have EC := E7.tr E8
          refine h_takeg 7 H rfl (wanted_true H rfl rfl rfl rfl) rfl (by decide) (by kernel_rfl) (by kernel_rfl) (by kernel_rfl) (fun w' hSw => (x_un H rfl rfl (u_not (c := false) (rfl)))) ?_
          clear H a; intro a H
          refine h_take 8 H rfl rfl rfl (by decide) (by kernel_rfl) (by kernel_rfl) (by kernel_rfl) (fun w' hSw => (x_pickF H rfl rfl rfl)) ?_
          clear H a; intro a H
          refine h_take 9 H rfl rfl rfl (by decide) (by kernel_rfl) (by kernel_rfl) (by kernel_rfl) (fun w' hSw => (x_move H rfl rfl)) ?_
          clear H a; intro a H
          refine h_takeg 10 H rfl (wanted_true H rfl rfl rfl rfl) rfl (by decide) (by kernel_rfl) (by kernel_rfl) (by kernel_rfl) (fun w' hSw => (x_move H rfl rfl)) ?_
          clear H a; intro a H
          refine h_takeg 12 H rfl (wanted_true H rfl rfl rfl rfl) rfl (by decide) (by kernel_rfl) (by kernel_rfl) (by kernel_rfl) (fun w' hSw => (x_move H rfl rfl)) ?_
          clear H a; intro a H
          refine h_takeg 13 H rfl (wanted_true H rfl rfl rfl rfl) rfl (by decide) (by kernel_rfl) (by kernel_rfl) (by kernel_rfl) (fun w' hSw => (x_nilCheck H rfl rfl)) ?_
          clear H a; intro a H
          refine h_takeg 14 H rfl (wanted_true H rfl rfl rfl rfl) rfl (by decide) (by kernel_rfl) (by kernel_rfl) (by kernel_rfl) (fun w' hSw => (x_fieldAddr H rfl rfl (fa121_1 _ _))) ?_
          clear H a; intro a H
          refine h_takeg 15 H rfl (wanted_true H rfl rfl rfl rfl) rfl (by decide) (by kernel_rfl) (by kernel_rfl) (by kernel_rfl) (fun w' hSw => (x_load H rfl rfl (l_cell Try.isAgg3 ((B8.ext hSw).at_ (i := 1) rfl)))) ?_
          clear H a; intro a H
          refine h_call 11 H rfl (by kernel_rfl) (wanted_true H rfl rfl rfl rfl) rfl (by decide) rfl rfl (Try.call86 _) (rErr_any g q lf ee _ R8) ?_
          clear H a
          rintro e w9 ⟨rfl, rfl⟩
          refine ⟨_, rfl, Ext.refl _, fun a H => ?_⟩
          refine h_takeg 16 H rfl (wanted_true H rfl rfl rfl rfl) rfl (by decide) (by kernel_rfl) (by kernel_rfl) (by kernel_rfl) (fun w' hSw => (x_binI H rfl rfl rfl (b_neq (b := false) (bn_f rfl)))) ?_
          clear H a; intro a H
          refine h_take 17 H rfl rfl rfl (by decide) (by kernel_rfl) (by kernel_rfl) (by kernel_rfl) (fun w' hSw => (x_pickF H rfl rfl rfl)) ?_
          clear H a; intro a H
          refine h_take 18 H rfl rfl rfl (by decide) (by kernel_rfl) (by kernel_rfl) (by kernel_rfl) (fun w' hSw => (x_move H rfl rfl)) ?_
          clear H a; intro a H
          refine h_takeg 19 H rfl (wanted_true H rfl rfl rfl rfl) rfl (by decide) (by kernel_rfl) (by kernel_rfl) (by kernel_rfl) (fun w' hSw => (x_move H rfl rfl)) ?_
          clear H a; intro a H
          refine h_takeg 21 H rfl (wanted_true H rfl rfl rfl rfl) rfl (by decide) (by kernel_rfl) (by kernel_rfl) (by kernel_rfl) (fun w' hSw => (x_move H rfl rfl)) ?_
          clear H a; intro a H
          refine h_takeg 22 H rfl (wanted_true H rfl rfl rfl rfl) rfl (by decide) (by kernel_rfl) (by kernel_rfl) (by kernel_rfl) (fun w' hSw => (x_nilCheck H rfl rfl)) ?_
          clear H a; intro a H
          refine h_takeg 23 H rfl (wanted_true H rfl rfl rfl rfl) rfl (by decide) (by kernel_rfl) (by kernel_rfl) (by kernel_rfl) (fun w' hSw => (x_fieldAddr H rfl rfl (fa121_0 _ _))) ?_
          clear H a; intro a H
          refine h_takeg 24 H rfl (wanted_true H rfl rfl rfl rfl) rfl (by decide) (by kernel_rfl) (by kernel_rfl) (by kernel_rfl) (fun w' hSw => (x_load H rfl rfl (l_cell Try.isAgg22 ((B8.ext hSw).at_ (i := 0) rfl)))) ?_
          clear H a; intro a H
          refine h_takeg 25 H rfl (wanted_true H rfl rfl rfl rfl) rfl (by decide) (by kernel_rfl) (by kernel_rfl) (by kernel_rfl) (fun w' hSw => (x_builtin H rfl rfl (fun cs => len_sl Try.underlying22))) ?_
          clear H a; intro a H
          refine h_call 20 H rfl (by kernel_rfl) (wanted_true H rfl rfl rfl rfl) rfl (by decide) rfl rfl (Try.call80 _) (rLeft_any g q lf ee _ R8) ?_
          clear H a
          rintro e w9 ⟨rfl, rfl⟩
          refine ⟨_, rfl, Ext.refl _, fun a H => ?_⟩
          refine h_takeg 26 H rfl (wanted_true H rfl rfl rfl rfl) rfl (by decide) (by kernel_rfl) (by kernel_rfl) (by kernel_rfl) (fun w' hSw => (x_binI H rfl rfl rfl (b_neq (b := false) (bn_f rfl)))) ?_
          clear H a; intro a H
          refine h_take 27 H rfl rfl rfl (by decide) (by kernel_rfl) (by kernel_rfl) (by kernel_rfl) (fun w' hSw => (x_pickF H rfl rfl rfl)) ?_
          clear H a; intro a H
          refine h_done (by kernel_rfl) (hR.out _ _ ?_)
          clear hR R
          have Q8 : Rr w8 g2 h lf ee := ⟨hne8, a8, _, c8, B8, S9, i1, i2, i3, i4⟩
          refine hK60 _ _ ?_
          clear hK60 K60
          refine c_false H rfl ?_
          refine wp_skip ?_
          refine hK59 _ _ ?_
          clear hK59 K59
          refine wp_seq_k (fun K61 hK61 => ?_)
          refine e_region (fun R hR => ?_)
          refine e_op H rfl rfl (by decide) (x_move H rfl rfl) ?_
          clear H a; intro a H
          refine e_op H rfl rfl (by decide) (x_builtin H rfl rfl (fun cs => len_sl Try.underlying22)) ?_
          clear H a; intro a H
          refine e_op H rfl rfl (by decide) (x_move H rfl rfl) ?_
          clear H a; intro a H
          refine e_nil (hR.out _ _ ?_)
          clear hR R
          refine hK61 _ _ ?_
          clear hK61 K61
          refine wp_block ?_
          refine wp_loop_ghost (fun n a w => n = 0 ∧ Has a 162 [(1, .slice (some ⟨b, off, none⟩) n2 c2), (6, .pointer (some ⟨g, 0, none⟩)), (7, .pointer (some ⟨g2, 0, none⟩)), (9, .int .i64 (k : Int)), (151, .int .i64 ((0 : Nat) : Int)), (152, .int .i64 0)] ∧ w = w8) (0) ?_ ?_
          · skip
            exact ⟨rfl, H.sub ⟨rfl, rfl, rfl, rfl, rfl, rfl, trivial⟩, rfl⟩
          · skip
            clear H a
            intro n a w hI
            obtain ⟨rfl, H, rfl⟩ := hI
            skip
            refine wp_seq_k (fun K62 hK62 => ?_)
            refine e_region (fun R hR => ?_)
            refine e_op H rfl rfl (by decide) (x_binI H rfl rfl rfl (b_lss (b := false) (rfl))) ?_
            clear H a; intro a H
            refine e_nil (hR.out _ _ ?_)
            clear hR R
            refine hK62 _ _ ?_
            clear hK62 K62
            refine wp_seq_k (fun K63 hK63 => ?_)
            refine c_false H rfl ?_
            refine wp_exit ?_
            refine t_exit ?_
            refine t_exit ?_
            refine b_hit ?_
            clear hK63 K63
            refine hK49 _ _ ?_
            clear hK49 K49
            refine e_region (fun R hR => ?_)
            refine e_op H rfl rfl (by decide) (x_move H rfl rfl) ?_
            clear H a; intro a H
            refine e_op H rfl rfl (by decide) (x_binI H rfl rfl rfl (b_add (z := ((k + 1 : Nat) : Int)) (by rw [IntKind.wrap_i64]; omega))) ?_
            clear H a; intro a H
            refine e_op H rfl rfl (by decide) (x_assign H rfl rfl) ?_
            clear H a; intro a H
            refine e_nil (hR.out _ _ ?_)
            clear hR R
            exact ⟨n2 - (k + 1), by omega, k + 1, lf, ee, by omega, rfl, H.sub ⟨rfl, rfl, rfl, rfl, trivial⟩, R8, Q8, EC⟩
        · skip
          obtain ⟨s, hs⟩ : ∃ s, ss[k]? = some s := ⟨_, List.getElem?_eq_getElem (by rw [h2.leng]; omega)⟩
          obtain ⟨hx1, ht1, hlo, hhi⟩ := hok s (List.mem_of_getElem? hs)
          obtain ⟨b, off, rfl, e0, e1, e2, e3⟩ := h2.cell k s hs
          rw [hs] at hxk
          obtain ⟨x, t, lo, hi⟩ := s
          replace hxk : xk = x := hxk
          simp only at hx1 ht1 hlo hhi e0 e1 e2 e3
          have d0 := E.cell e0
          have d1 := E.cell e1
          have d2 := E.cell e2
          have d3 := E.cell e3
          clear e0 e1 e2 e3
          have hgW : g < w.heap.size := by
            obtain ⟨_, a, n, c, B, _⟩ := Rq
            exact B.lt
          have hgW2 : g2 < w.heap.size := by
            obtain ⟨_, a, n, c, B, _⟩ := Q
            exact B.lt
          have hW0 := E.sz
          have hqb : 0 < ls.length → q < w.heap.size := fun hp => by
            obtain ⟨_, a, n, c, B, S, _, _, h3, _⟩ := Rq
            have := S.leng
            obtain ⟨b1, o1, e1, hc⟩ := S.cell 0 (by omega)
            obtain rfl := h3 b1 o1 e1
            exact World.block_lt_of_cell? w _ hc
          have hrow : ∀ j v, ([.int .i64 x, .int .u64 (t : Int), .int .i64 lo, .int .i64 hi] : List Value)[j]? = some v → w.cell? ⟨b, off + k * 4 + j, none⟩ = some v := by
            intro j v hv
            rcases j with _ | _ | _ | _ | j
            · simp at hv; subst hv; exact d0
            · simp at hv; subst hv; exact d1
            · simp at hv; subst hv; exact d2
            · simp at hv; subst hv; exact d3
            · simp at hv
          obtain rfl : x = 3 := by omega
          refine wp_seq_k (fun K64 hK64 => ?_)
          refine wp_seq_k (fun K65 hK65 => ?_)
          refine e_region (fun R hR => ?_)
          refine e_op H rfl rfl (by decide) (x_move H rfl rfl) ?_
          clear H a; intro a H
          refine e_op H rfl rfl (by decide) (x_move H rfl rfl) ?_
          clear H a; intro a H
          refine e_op H rfl rfl (by decide) (x_builtin H rfl rfl (fun cs => len_sl under118)) ?_
          clear H a; intro a H
          refine e_op H rfl rfl (by decide) (x_binI H rfl rfl rfl (b_lss (b := true) (dc_t (by omega)))) ?_
          clear H a; intro a H
          refine e_op H rfl rfl (by decide) (x_move H rfl rfl) ?_
          clear H a; intro a H
          refine e_opg H (wanted_true H rfl rfl rfl rfl) rfl (by decide) (x_move H rfl rfl) ?_
          clear H a; intro a H
          refine e_opg H (wanted_true H rfl rfl rfl rfl) rfl (by decide) (x_binI H rfl rfl rfl (b_lss (b := true) (dc_t (by omega)))) ?_
          clear H a; intro a H
          refine e_op H rfl rfl (by decide) (x_pickT H rfl rfl rfl) ?_
          clear H a; intro a H
          refine e_nil (hR.out _ _ ?_)
          clear hR R
          refine hK65 _ _ ?_
          clear hK65 K65
          refine c_true H rfl ?_
          refine wp_skip ?_
          refine hK64 _ _ ?_
          clear hK64 K64
          refine wp_seq_k (fun K66 hK66 => ?_)
          refine wp_block ?_
          refine wp_seq_k (fun K67 hK67 => ?_)
          refine e_region (fun R hR => ?_)
          refine e_op H rfl rfl (by decide) (x_move H rfl rfl) ?_
          clear H a; intro a H
          refine e_op H rfl rfl (by decide) (x_move H rfl rfl) ?_
          clear H a; intro a H
          refine e_op H rfl rfl (by decide) (x_indexAddr H rfl rfl rfl (i_slN (m := k) (s := 4) under118 size123 rfl (by omega))) ?_
          clear H a; intro a H
          refine e_op H rfl rfl (by decide) (x_load H rfl rfl (l_part (cs := [.int .i64 3, .int .u64 (t : Int), .int .i64 lo, .int .i64 hi]) isAgg123 size123 hrow)) ?_
          clear H a; intro a H
          refine e_op H rfl rfl (by decide) (x_alloc H rfl (al_new (z123 _))) ?_
          clear H a; intro a H
          have D0 : Blk (w.alloc (.cells #[.int .i64 0, .int .u64 0, .int .i64 0, .int .i64 0] 123)) w.heap.size 123 [.int .i64 0, .int .u64 0, .int .i64 0, .int .i64 0] := Blk.new w 123 _
          have EA0 := (Ext.refl w).al (.cells #[.int .i64 0, .int .u64 0, .int .i64 0, .int .i64 0] 123)
          refine e_st H rfl rfl (x_store H rfl rfl rfl (st_row D0 (by kernel_rfl) rfl (by simp [Value.oneCell']))) ?_
          have k3 := D0.row [.int .i64 3, .int .u64 (t : Int), .int .i64 lo, .int .i64 hi]
          have EA := EA0.row_ (g := w.heap.size) (Nat.le_refl _) #[.int .i64 3, .int .u64 (t : Int), .int .i64 lo, .int .i64 hi]
          obtain ⟨gb, hgb⟩ : ∃ gb, gb = w.heap.size := ⟨_, rfl⟩
          rw [← hgb] at k3 hgW hgW2 hqb H EA hW0 ⊢
          generalize (w.alloc (.cells #[.int .i64 0, .int .u64 0, .int .i64 0, .int .i64 0] 123)).setRow gb #[.int .i64 3, .int .u64 (t : Int), .int .i64 lo, .int .i64 hi] = w3 at *
          have R3 := Rq.ext EA
          have Q3 := Q.ext EA
          have hgb3 := k3.lt
          clear D0 EA0 hrow d0 d1 d2 d3
          have hm2 : ((t : Int)).tmod 300 = ((t % 300 : Nat) : Int) := by rw [Int.tmod_eq_emod_of_nonneg (by omega)]; omega
          obtain ⟨tt, htt⟩ : ∃ tt, tt = t % 300 := ⟨_, rfl⟩
          rw [← htt] at hm2
          have ht3 : tt < 300 := by omega
          refine e_nil (hR.out _ _ ?_)
          clear hR R
          refine hK67 _ _ ?_
          clear hK67 K67
          refine wp_seq_k (fun K68 hK68 => ?_)
          refine e_region (fun R hR => ?_)
          refine e_op H rfl rfl (by decide) (x_assign H rfl rfl) ?_
          clear H a; intro a H
          refine e_nil (hR.out _ _ ?_)
          clear hR R
          refine hK68 _ _ ?_
          clear hK68 K68
          refine wp_seq_k (fun K69 hK69 => ?_)
          refine e_region (fun R hR => ?_)
          refine e_op H rfl rfl (by decide) (x_assign H rfl rfl) ?_
          clear H a; intro a H
          refine e_nil (hR.out _ _ ?_)
          clear hR R
          refine hK69 _ _ ?_
          clear hK69 K69
          refine wp_seq_k (fun K70 hK70 => ?_)
          refine wp_seq_k (fun K71 hK71 => ?_)
          refine e_region (fun R hR => ?_)
          refine e_op H rfl rfl (by decide) (x_fieldAddr H rfl rfl (fa123_0 _ _)) ?_
          clear H a; intro a H
          refine e_op H rfl rfl (by decide) (x_load H rfl rfl (l_cell Try.isAgg3 (k3.at_ (i := 0) rfl))) ?_
          clear H a; intro a H
          refine e_nil (hR.out _ _ ?_)
          clear hR R
          refine hK71 _ _ ?_
          clear hK71 K71
          refine wp_block ?_
          refine wp_seq_k (fun K72 hK72 => ?_)
          refine e_region (fun R hR => ?_)
          refine e_op H rfl rfl (by decide) (x_binI H rfl rfl rfl (b_eql (b := false) (rfl))) ?_
          clear H a; intro a H
          refine e_op H rfl rfl (by decide) (x_assign H rfl rfl) ?_
          clear H a; intro a H
          refine e_nil (hR.out _ _ ?_)
          clear hR R
          refine hK72 _ _ ?_
          clear hK72 K72
          refine c_false H rfl ?_
          refine wp_seq_k (fun K73 hK73 => ?_)
          refine e_region (fun R hR => ?_)
          refine e_op H rfl rfl (by decide) (x_binI H rfl rfl rfl (b_eql (b := false) (rfl))) ?_
          clear H a; intro a H
          refine e_op H rfl rfl (by decide) (x_assign H rfl rfl) ?_
          clear H a; intro a H
          refine e_nil (hR.out _ _ ?_)
          clear hR R
          refine hK73 _ _ ?_
          clear hK73 K73
          refine c_false H rfl ?_
          refine wp_seq_k (fun K74 hK74 => ?_)
          refine e_region (fun R hR => ?_)
          refine e_op H rfl rfl (by decide) (x_binI H rfl rfl rfl (b_eql (b := false) (rfl))) ?_
          clear H a; intro a H
          refine e_op H rfl rfl (by decide) (x_assign H rfl rfl) ?_
          clear H a; intro a H
          refine e_nil (hR.out _ _ ?_)
          clear hR R
          refine hK74 _ _ ?_
          clear hK74 K74
          refine c_false H rfl ?_
          refine wp_seq_k (fun K75 hK75 => ?_)
          refine e_region (fun R hR => ?_)
          refine e_op H rfl rfl (by decide) (x_binI H rfl rfl rfl (b_eql (b := true) (rfl))) ?_
          clear H a; intro a H
          refine e_op H rfl rfl (by decide) (x_assign H rfl rfl) ?_
          clear H a; intro a H
          refine e_nil (hR.out _ _ ?_)
          clear hR R
          refine hK75 _ _ ?_
          clear hK75 K75
          refine c_true H rfl ?_
          refine wp_seq_k (fun K76 hK76 => ?_)
          refine e_region (fun R hR => ?_)
          refine e_op H rfl rfl (by decide) (x_fieldAddr H rfl rfl (fa123_1 _ _)) ?_
          clear H a; intro a H
          refine e_op H rfl rfl (by decide) (x_load H rfl rfl (l_cell Try.isAgg56 (k3.at_ (i := 1) rfl))) ?_
          clear H a; intro a H
          refine e_op H rfl rfl (by decide) (x_binI H rfl rfl rfl (b_rem (z := (tt : Int)) (by decide) (hm2))) ?_
          clear H a; intro a H
          refine e_op H rfl rfl (by decide) (x_fieldAddr H rfl rfl (fa123_1 _ _)) ?_
          clear H a; intro a H
          refine e_st H rfl rfl (x_store H rfl rfl rfl (st_cell rfl rfl Try.sizeOf56 (k3.frozen 1) (k3.isSome 1 (by simp)))) ?_
          have F4 : Frm [gb] w3 (w3.setCell ⟨gb, 1, none⟩ (.int .u64 (tt : Int))) := (Frm.refl _ _).st gb 1 _ (.inl (by simp))
          have k4 := k3.set_ 1 (.int .u64 (tt : Int))
          have R4b := R3.frm0 F4 (by simp; omega) (fun hp => by have := hqb hp; simp; omega)
          have Q4 := Q3.frm F4 (by simp; omega) (by simp; omega)
          have E4b := F4.ext (E.tr EA) (fun x hx => by simp only [List.mem_singleton] at hx; omega)
          have s4 : gb ≤ (w3.setCell ⟨gb, 1, none⟩ (.int .u64 (tt : Int))).heap.size := Nat.le_of_lt k4.lt
          generalize w3.setCell ⟨gb, 1, none⟩ (.int .u64 (tt : Int)) = w4 at *
          have K1 := rBytes_any g q ls er (tt : Int) w4 R4b (by omega) (by omega)
          have K2 : ∀ w6, Rr w6 g2 h ls er → Calls Try.prog 85 #[.pointer (some ⟨g2, 0, none⟩), .int .i64 3, .int .u64 (tt : Int), .int .i64 lo, .int .i64 hi] w6 (RrPost 0 (rsBytes ls er (tt : Int)).body (rsBytes ls er (tt : Int)).left (rsBytes ls er (tt : Int)).err g2 h w6) := fun w6 Q6 => rread3 g2 h ls er tt lo hi w6 Q6 ht3
          have hlf := rsBytes_left ls er (tt : Int)
          have hbd := rsBytes_body ls er (tt : Int)
          have hln := R3.len
          generalize rsBytes ls er (tt : Int) = rs at *
          obtain ⟨bd, lf, ee⟩ := rs
          unfold RbPost at K1
          dsimp only at K1 K2 hlf hbd
          refine e_nil (hR.out _ _ ?_)
          clear hR R
          refine hK76 _ _ ?_
          clear hK76 K76
          refine e_region (fun R hR => ?_)
          refine e_op H rfl rfl (by decide) (x_move H rfl rfl) ?_
          clear H a; intro a H
          refine e_op H rfl rfl (by decide) (x_fieldAddr H rfl rfl (fa123_1 _ _)) ?_
          clear H a; intro a H
          refine e_op H rfl rfl (by decide) (x_load H rfl rfl (l_cell Try.isAgg56 (k4.at_ (i := 1) rfl))) ?_
          clear H a; intro a H
          refine e_op H rfl rfl (by decide) (x_conv H rfl rfl (c_int (z := (tt : Int)) Try.underlying56 Try.underlying3 (by rw [IntKind.wrap_i64]; omega))) ?_
          clear H a; intro a H
          refine e_callq H rfl rfl (by decide) rfl rfl (Try.call79 _) (K1) ?_
          clear H a
          rintro e w6 ⟨a6, c6, rfl, O6, R6, F6⟩
          refine ⟨_, rfl, fun a H => ?_⟩
          have k6 := k4.frm F6 (by simp; omega)
          have Q6 := Q4.frm F6 (by simp; omega) (by simp; omega)
          have E6 := F6.ext E4b (fun x hx => by simp only [List.mem_singleton] at hx; omega)
          replace O6 := O6.mono s4
          refine e_op H rfl rfl (by decide) (x_assign H rfl rfl) ?_
          clear H a; intro a H
          refine e_nil (hR.out _ _ ?_)
          clear hR R
          refine hK70 _ _ ?_
          clear hK70 K70
          refine wp_seq_k (fun K77 hK77 => ?_)
          refine e_region (fun R hR => ?_)
          refine e_op H rfl rfl (by decide) (x_move H rfl rfl) ?_
          clear H a; intro a H
          refine e_op H rfl rfl (by decide) (x_fieldAddr H rfl rfl (fa123_0 _ _)) ?_
          clear H a; intro a H
          refine e_op H rfl rfl (by decide) (x_load H rfl rfl (l_cell Try.isAgg3 (k6.at_ (i := 0) rfl))) ?_
          clear H a; intro a H
          refine e_op H rfl rfl (by decide) (x_fieldAddr H rfl rfl (fa123_1 _ _)) ?_
          clear H a; intro a H
          refine e_op H rfl rfl (by decide) (x_load H rfl rfl (l_cell Try.isAgg56 (k6.at_ (i := 1) rfl))) ?_
          clear H a; intro a H
          refine e_op H rfl rfl (by decide) (x_fieldAddr H rfl rfl (fa123_2 _ _)) ?_
          clear H a; intro a H
          refine e_op H rfl rfl (by decide) (x_load H rfl rfl (l_cell Try.isAgg3 (k6.at_ (i := 2) rfl))) ?_
          clear H a; intro a H
          refine e_op H rfl rfl (by decide) (x_fieldAddr H rfl rfl (fa123_3 _ _)) ?_
          clear H a; intro a H
          refine e_op H rfl rfl (by decide) (x_load H rfl rfl (l_cell Try.isAgg3 (k6.at_ (i := 3) rfl))) ?_
          clear H a; intro a H
          refine e_callq H rfl rfl (by decide) rfl rfl (Try.call85 _) (K2 _ Q6) ?_
          clear H a
          rintro e w7 ⟨a7, c7, rfl, b7, Q7, F7⟩
          refine ⟨_, rfl, fun a H => ?_⟩
          have hqa := R6.apart Q6
          have R7 := R6.frm0 F7 (by simp; omega) (fun hp => by have := hqa hp; simpa using this)
          have E7 := F7.ext E6 (fun x hx => by simp only [List.mem_singleton] at hx; omega)
          have O7 := O6.frm F7 (fun b off e => by have := (O6.lt e).1; simp only [List.mem_singleton]; omega)
          refine e_op H rfl rfl (by decide) (x_move H rfl rfl) ?_
          clear H a; intro a H
          refine e_op H rfl rfl (by decide) (x_extract H rfl rfl rfl) ?_
          clear H a; intro a H
          refine e_op H rfl rfl (by decide) (x_extract H rfl rfl rfl) ?_
          clear H a; intro a H
          refine e_op H rfl rfl (by decide) (x_assign H rfl rfl) ?_
          clear H a; intro a H
          refine e_op H rfl rfl (by decide) (x_assign H rfl rfl) ?_
          clear H a; intro a H
          refine e_nil (hR.out _ _ ?_)
          clear hR R
          refine hK77 _ _ ?_
          clear hK77 K77
          refine wp_seq_k (fun K78 hK78 => ?_)
          refine wp_seq_k (fun K79 hK79 => ?_)
          refine h_start (by kernel_rfl) (fun R hR => ?_)
          obtain ⟨hne8, a8, n8, c8, B7, S8, i1, i2, i3, i4⟩ := Q7.ext ((Ext.refl w7).dr)
          replace R7 := R7.ext ((Ext.refl w7).dr)
          replace b7 := (Ext.refl w7).dr.bs b7
          replace E7 := E7.dr
          replace O7 : Ow w7.drew gb a6 bd.length c6 bd := O7
          obtain rfl := S8.leng
          generalize w7.drew = wq at *
          refine h_take 0 H rfl rfl rfl (by decide) (by kernel_rfl) (by kernel_rfl) (by kernel_rfl) (fun w' hSw => (x_move H rfl rfl)) ?_
          clear H a; intro a H
          refine h_take 1 H rfl rfl rfl (by decide) (by kernel_rfl) (by kernel_rfl) (by kernel_rfl) (fun w' hSw => (x_move H rfl rfl)) ?_
          clear H a; intro a H
          refine h_take 2 H rfl rfl rfl (by decide) (by kernel_rfl) (by kernel_rfl) (by kernel_rfl) (fun w' hSw => (x_binI H rfl rfl rfl (b_neq (b := false) (bn_f rfl)))) ?_
          clear H a; intro a H
          refine h_take 3 H rfl rfl rfl (by decide) (by kernel_rfl) (by kernel_rfl) (by kernel_rfl) (fun w' hSw => (x_move H rfl rfl)) ?_
          clear H a; intro a H
          refine h_takeg 4 H rfl (wanted_true H rfl rfl rfl rfl) rfl (by decide) (by kernel_rfl) (by kernel_rfl) (by kernel_rfl) (fun w' hSw => (x_move H rfl rfl)) ?_
          clear H a; intro a H
          refine h_takeg 5 H rfl (wanted_true H rfl rfl rfl rfl) rfl (by decide) (by kernel_rfl) (by kernel_rfl) (by kernel_rfl) (fun w' hSw => (x_move H rfl rfl)) ?_
          clear H a; intro a H
          refine h_call 6 H rfl (by kernel_rfl) (wanted_true H rfl rfl rfl rfl) rfl (by decide) rfl rfl (Try.call45 _) (same1_any a6 bd.length c6 a7 bd.length c7 bd bd _ O7.bs b7 (by omega)) ?_
          clear H a
          rintro e w8 ⟨rfl, E8⟩
          refine ⟨.bool true, by simp, E8, fun a H => ?_⟩
          have R8 := R7.ext E8
          have B8 := B7.ext E8
          have S9 := E8.bs S8
          have EC := E7.tr E8
          have O8 : Ow w8 gb a6 bd.length c6 bd := E8.row O7
          refine h_takeg 7 H rfl (wanted_true H rfl rfl rfl rfl) rfl (by decide) (by kernel_rfl) (by kernel_rfl) (by kernel_rfl) (fun w' hSw => (x_un H rfl rfl (u_not (c := false) (rfl)))) ?_
          clear H a; intro a H
          refine h_take 8 H rfl rfl rfl (by decide) (by kernel_rfl) (by kernel_rfl) (by kernel_rfl) (fun w' hSw => (x_pickF H rfl rfl rfl)) ?_
          clear H a; intro a H
          refine h_take 9 H rfl rfl rfl (by decide) (by kernel_rfl) (by kernel_rfl) (by kernel_rfl) (fun w' hSw => (x_move H rfl rfl)) ?_
          clear H a; intro a H
          refine h_takeg 10 H rfl (wanted_true H rfl rfl rfl rfl) rfl (by decide) (by kernel_rfl) (by kernel_rfl) (by kernel_rfl) (fun w' hSw => (x_move H rfl rfl)) ?_
          clear H a; intro a H
          refine h_takeg 12 H rfl (wanted_true H rfl rfl rfl rfl) rfl (by decide) (by kernel_rfl) (by kernel_rfl) (by kernel_rfl) (fun w' hSw => (x_move H rfl rfl)) ?_
          clear H a; intro a H
          refine h_takeg 13 H rfl (wanted_true H rfl rfl rfl rfl) rfl (by decide) (by kernel_rfl) (by kernel_rfl) (by kernel_rfl) (fun w' hSw => (x_nilCheck H rfl rfl)) ?_
          clear H a; intro a H
          refine h_takeg 14 H rfl (wanted_true H rfl rfl rfl rfl) rfl (by decide) (by kernel_rfl) (by kernel_rfl) (by kernel_rfl) (fun w' hSw => (x_fieldAddr H rfl rfl (fa121_1 _ _))) ?_
          clear H a; intro a H
          refine h_takeg 15 H rfl (wanted_true H rfl rfl rfl rfl) rfl (by decide) (by kernel_rfl) (by kernel_rfl) (by kernel_rfl) (fun w' hSw => (x_load H rfl rfl (l_cell Try.isAgg3 ((B8.ext hSw).at_ (i := 1) rfl)))) ?_
          clear H a; intro a H
          refine h_call 11 H rfl (by kernel_rfl) (wanted_true H rfl rfl rfl rfl) rfl (by decide) rfl rfl (Try.call86 _) (rErr_any g q lf ee _ R8) ?_
          clear H a
          rintro e w9 ⟨rfl, rfl⟩
          refine ⟨_, rfl, Ext.refl _, fun a H => ?_⟩
          refine h_takeg 16 H rfl (wanted_true H rfl rfl rfl rfl) rfl (by decide) (by kernel_rfl) (by kernel_rfl) (by kernel_rfl) (fun w' hSw => (x_binI H rfl rfl rfl (b_neq (b := false) (bn_f rfl)))) ?_
          clear H a; intro a H
          refine h_take 17 H rfl rfl rfl (by decide) (by kernel_rfl) (by kernel_rfl) (by kernel_rfl) (fun w' hSw => (x_pickF H rfl rfl rfl)) ?_
          clear H a; intro a H
          refine h_take 18 H rfl rfl rfl (by decide) (by kernel_rfl) (by kernel_rfl) (by kernel_rfl) (fun w' hSw => (x_move H rfl rfl)) ?_
          clear H a; intro a H
          refine h_takeg 19 H rfl (wanted_true H rfl rfl rfl rfl) rfl (by decide) (by kernel_rfl) (by kernel_rfl) (by kernel_rfl) (fun w' hSw => (x_move H rfl rfl)) ?_
          clear H a; intro a H
          refine h_takeg 21 H rfl (wanted_true H rfl rfl rfl rfl) rfl (by decide) (by kernel_rfl) (by kernel_rfl) (by kernel_rfl) (fun w' hSw => (x_move H rfl rfl)) ?_
          clear H a; intro a H
          refine h_takeg 22 H rfl (wanted_true H rfl rfl rfl rfl) rfl (by decide) (by kernel_rfl) (by kernel_rfl) (by kernel_rfl) (fun w' hSw => (x_nilCheck H rfl rfl)) ?_
          clear H a; intro a H
          refine h_takeg 23 H rfl (wanted_true H rfl rfl rfl rfl) rfl (by decide) (by kernel_rfl) (by kernel_rfl) (by kernel_rfl) (fun w' hSw => (x_fieldAddr H rfl rfl (fa121_0 _ _))) ?_
          clear H a; intro a H
          refine h_takeg 24 H rfl (wanted_true H rfl rfl rfl rfl) rfl (by decide) (by kernel_rfl) (by kernel_rfl) (by kernel_rfl) (fun w' hSw => (x_load H rfl rfl (l_cell Try.isAgg22 ((B8.ext hSw).at_ (i := 0) rfl)))) ?_
          clear H a; intro a H
          refine h_takeg 25 H rfl (wanted_true H rfl rfl rfl rfl) rfl (by decide) (by kernel_rfl) (by kernel_rfl) (by kernel_rfl) (fun w' hSw => (x_builtin H rfl rfl (fun cs => len_sl Try.underlying22))) ?_
          clear H a; intro a H
          refine h_call 20 H rfl (by kernel_rfl) (wanted_true H rfl rfl rfl rfl) rfl (by decide) rfl rfl (Try.call80 _) (rLeft_any g q lf ee _ R8) ?_
          clear H a
          rintro e w9 ⟨rfl, rfl⟩
          refine ⟨_, rfl, Ext.refl _, fun a H => ?_⟩
          refine h_takeg 26 H rfl (wanted_true H rfl rfl rfl rfl) rfl (by decide) (by kernel_rfl) (by kernel_rfl) (by kernel_rfl) (fun w' hSw => (x_binI H rfl rfl rfl (b_neq (b := false) (bn_f rfl)))) ?_
          clear H a; intro a H
          refine h_take 27 H rfl rfl rfl (by decide) (by kernel_rfl) (by kernel_rfl) (by kernel_rfl) (fun w' hSw => (x_pickF H rfl rfl rfl)) ?_
          clear H a; intro a H
          refine h_done (by kernel_rfl) (hR.out _ _ ?_)
          clear hR R
          have Q8 : Rr w8 g2 h lf ee := ⟨hne8, a8, _, c8, B8, S9, i1, i2, i3, i4⟩
          refine hK79 _ _ ?_
          clear hK79 K79
          refine c_false H rfl ?_
          refine wp_skip ?_
          refine hK78 _ _ ?_
          clear hK78 K78
          refine wp_seq_k (fun K80 hK80 => ?_)
          refine e_region (fun R hR => ?_)
          refine e_op H rfl rfl (by decide) (x_move H rfl rfl) ?_
          clear H a; intro a H
          refine e_op H rfl rfl (by decide) (x_builtin H rfl rfl (fun cs => len_sl Try.underlying22)) ?_
          clear H a; intro a H
          refine e_op H rfl rfl (by decide) (x_move H rfl rfl) ?_
          clear H a; intro a H
          refine e_nil (hR.out _ _ ?_)
          clear hR R
          refine hK80 _ _ ?_
          clear hK80 K80
          refine wp_block ?_
          refine wp_loop_ghost (fun n a w => ∃ (j : Nat) (l2 : List UInt8), j ≤ bd.length ∧ n = bd.length - j ∧ Has a 162 [(1, .slice (some ⟨b, off, none⟩) n2 c2), (6, .pointer (some ⟨g, 0, none⟩)), (7, .pointer (some ⟨g2, 0, none⟩)), (9, .int .i64 (k : Int)), (12, .slice a6 bd.length c6), (151, .int .i64 (bd.length : Int)), (152, .int .i64 (j : Int))] ∧ Ow w gb a6 bd.length c6 l2 ∧ Rd w g q lf ee ∧ Rr w g2 h lf ee ∧ Ext W w) (bd.length) ?_ ?_
          · skip
            exact ⟨0, bd, by omega, rfl, H.sub ⟨rfl, rfl, rfl, rfl, rfl, rfl, rfl, trivial⟩, O8, R8, Q8, EC⟩
          · skip
            clear H a O8 R8 Q8 EC
            intro n a w hI
            obtain ⟨j, l2, hj, rfl, H, O, R8, Q8, EC⟩ := hI
            rcases Nat.lt_or_ge j bd.length with hjn | hjn
            · skip
              obtain ⟨bb, rfl, hbb, _, hfz⟩ := O.form0 (by omega)
              obtain ⟨b', o', e', hc⟩ := O.bs.cell j hjn
              obtain ⟨rfl, rfl⟩ : bb = b' ∧ 0 = o' := by simpa using e'
              rw [Nat.zero_add] at hc
              refine wp_seq_k (fun K81 hK81 => ?_)
              refine e_region (fun R hR => ?_)
              refine e_op H rfl rfl (by decide) (x_binI H rfl rfl rfl (b_lss (b := true) (dc_t (by omega)))) ?_
              clear H a; intro a H
              refine e_nil (hR.out _ _ ?_)
              clear hR R
              refine hK81 _ _ ?_
              clear hK81 K81
              refine wp_seq_k (fun K82 hK82 => ?_)
              refine c_true H rfl ?_
              refine wp_skip ?_
              refine hK82 _ _ ?_
              clear hK82 K82
              refine wp_seq_k (fun K83 hK83 => ?_)
              refine wp_block ?_
              refine wp_seq_k (fun K84 hK84 => ?_)
              refine e_region (fun R hR => ?_)
              refine e_op H rfl rfl (by decide) (x_move H rfl rfl) ?_
              clear H a; intro a H
              refine e_op H rfl rfl (by decide) (x_assign H rfl rfl) ?_
              clear H a; intro a H
              refine e_nil (hR.out _ _ ?_)
              clear hR R
              refine hK84 _ _ ?_
              clear hK84 K84
              refine e_region (fun R hR => ?_)
              refine e_op H rfl rfl (by decide) (x_move H rfl rfl) ?_
              clear H a; intro a H
              refine e_op H rfl rfl (by decide) (x_move H rfl rfl) ?_
              clear H a; intro a H
              refine e_op H rfl rfl (by decide) (x_indexAddr H rfl rfl rfl (i_sl0 (m := j) Try.underlying22 Try.sizeOf5 rfl (by omega))) ?_
              clear H a; intro a H
              refine e_op H rfl rfl (by decide) (x_load H rfl rfl (l_cell Try.isAgg5 (hc))) ?_
              clear H a; intro a H
              refine e_op H rfl rfl (by decide) (x_binI H rfl rfl rfl (b_add (z := ((l2[j]?.getD 0 + 1).toNat : Int)) (by rw [IntKind.wrap_u8, UInt8.toNat_add]; simp [nb]))) ?_
              clear H a; intro a H
              refine e_op H rfl rfl (by decide) (x_indexAddr H rfl rfl rfl (i_sl0 (m := j) Try.underlying22 Try.sizeOf5 rfl (by omega))) ?_
              clear H a; intro a H
              refine e_st H rfl rfl (x_store H rfl rfl rfl (st_cell rfl rfl Try.sizeOf5 (hfz j) (by rw [hc]; rfl))) ?_
              have F : Frm [bb] w (w.setCell ⟨bb, j, none⟩ (.int .u8 ((l2[j]?.getD 0 + 1).toNat : Int))) := (Frm.refl _ _).st bb j _ (.inl (by simp))
              have O2 := O.setAt j hjn (l2[j]?.getD 0 + 1) _ rfl
              have R2 := R8.frm0 F (by simp; omega) (fun hp => by have := hqb (by omega); simp; omega)
              have Q2 := Q8.frm F (by simp; omega) (by simp; omega)
              have E2 := F.ext EC (fun x hx => by simp only [List.mem_singleton] at hx; omega)
              refine e_nil (hR.out _ _ ?_)
              clear hR R
              refine hK83 _ _ ?_
              clear hK83 K83
              refine e_region (fun R hR => ?_)
              refine e_op H rfl rfl (by decide) (x_binI H rfl rfl rfl (b_add (z := ((j + 1 : Nat) : Int)) (by rw [IntKind.wrap_i64]; omega))) ?_
              clear H a; intro a H
              refine e_op H rfl rfl (by decide) (x_move H rfl rfl) ?_
              clear H a; intro a H
              refine e_nil (hR.out _ _ ?_)
              clear hR R
              exact ⟨bd.length - (j + 1), by omega, j + 1, _, by omega, rfl, H.sub ⟨rfl, rfl, rfl, rfl, rfl, rfl, rfl, trivial⟩, O2, R2, Q2, E2⟩
            · skip
              skip
              refine wp_seq_k (fun K85 hK85 => ?_)
              refine e_region (fun R hR => ?_)
              refine e_op H rfl rfl (by decide) (x_binI H rfl rfl rfl (b_lss (b := false) (dc_f (by omega)))) ?_
              clear H a; intro a H
              refine e_nil (hR.out _ _ ?_)
              clear hR R
              refine hK85 _ _ ?_
              clear hK85 K85
              refine wp_seq_k (fun K86 hK86 => ?_)
              refine c_false H rfl ?_
              refine wp_exit ?_
              refine t_exit ?_
              refine t_exit ?_
              refine b_hit ?_
              clear hK86 K86
              refine hK66 _ _ ?_
              clear hK66 K66
              refine e_region (fun R hR => ?_)
              refine e_op H rfl rfl (by decide) (x_move H rfl rfl) ?_
              clear H a; intro a H
              refine e_op H rfl rfl (by decide) (x_binI H rfl rfl rfl (b_add (z := ((k + 1 : Nat) : Int)) (by rw [IntKind.wrap_i64]; omega))) ?_
              clear H a; intro a H
              refine e_op H rfl rfl (by decide) (x_assign H rfl rfl) ?_
              clear H a; intro a H
              refine e_nil (hR.out _ _ ?_)
              clear hR R
              exact ⟨n2 - (k + 1), by omega, k + 1, lf, ee, by omega, rfl, H.sub ⟨rfl, rfl, rfl, rfl, trivial⟩, R8, Q8, EC⟩
        · skip
          obtain ⟨s, hs⟩ : ∃ s, ss[k]? = some s := ⟨_, List.getElem?_eq_getElem (by rw [h2.leng]; omega)⟩
          obtain ⟨hx1, ht1, hlo, hhi⟩ := hok s (List.mem_of_getElem? hs)
          obtain ⟨b, off, rfl, e0, e1, e2, e3⟩ := h2.cell k s hs
          rw [hs] at hxk
          obtain ⟨x, t, lo, hi⟩ := s
          replace hxk : xk = x := hxk
          simp only at hx1 ht1 hlo hhi e0 e1 e2 e3
          have d0 := E.cell e0
          have d1 := E.cell e1
          have d2 := E.cell e2
          have d3 := E.cell e3
          clear e0 e1 e2 e3
          have hgW : g < w.heap.size := by
            obtain ⟨_, a, n, c, B, _⟩ := Rq
            exact B.lt
          have hgW2 : g2 < w.heap.size := by
            obtain ⟨_, a, n, c, B, _⟩ := Q
            exact B.lt
          have hW0 := E.sz
          have hqb : 0 < ls.length → q < w.heap.size := fun hp => by
            obtain ⟨_, a, n, c, B, S, _, _, h3, _⟩ := Rq
            have := S.leng
            obtain ⟨b1, o1, e1, hc⟩ := S.cell 0 (by omega)
            obtain rfl := h3 b1 o1 e1
            exact World.block_lt_of_cell? w _ hc
          have hrow : ∀ j v, ([.int .i64 x, .int .u64 (t : Int), .int .i64 lo, .int .i64 hi] : List Value)[j]? = some v → w.cell? ⟨b, off + k * 4 + j, none⟩ = some v := by
            intro j v hv
            rcases j with _ | _ | _ | _ | j
            · simp at hv; subst hv; exact d0
            · simp at hv; subst hv; exact d1
            · simp at hv; subst hv; exact d2
            · simp at hv; subst hv; exact d3
            · simp at hv
          obtain rfl : x = 4 := by omega
          refine wp_seq_k (fun K87 hK87 => ?_)
          refine wp_seq_k (fun K88 hK88 => ?_)
          refine e_region (fun R hR => ?_)
          refine e_op H rfl rfl (by decide) (x_move H rfl rfl) ?_
          clear H a; intro a H
          refine e_op H rfl rfl (by decide) (x_move H rfl rfl) ?_
          clear H a; intro a H
          refine e_op H rfl rfl (by decide) (x_builtin H rfl rfl (fun cs => len_sl under118)) ?_
          clear H a; intro a H
          refine e_op H rfl rfl (by decide) (x_binI H rfl rfl rfl (b_lss (b := true) (dc_t (by omega)))) ?_
          clear H a; intro a H
          refine e_op H rfl rfl (by decide) (x_move H rfl rfl) ?_
          clear H a; intro a H
          refine e_opg H (wanted_true H rfl rfl rfl rfl) rfl (by decide) (x_move H rfl rfl) ?_
          clear H a; intro a H
          refine e_opg H (wanted_true H rfl rfl rfl rfl) rfl (by decide) (x_binI H rfl rfl rfl (b_lss (b := true) (dc_t (by omega)))) ?_
          clear H a; intro a H
          refine e_op H rfl rfl (by decide) (x_pickT H rfl rfl rfl) ?_
          clear H a; intro a H
          refine e_nil (hR.out _ _ ?_)
          clear hR R
          refine hK88 _ _ ?_
          clear hK88 K88
          refine c_true H rfl ?_
          refine wp_skip ?_
          refine hK87 _ _ ?_
          clear hK87 K87
          refine wp_seq_k (fun K89 hK89 => ?_)
          refine wp_block ?_
          refine wp_seq_k (fun K90 hK90 => ?_)
          refine e_region (fun R hR => ?_)
          refine e_op H rfl rfl (by decide) (x_move H rfl rfl) ?_
          clear H a; intro a H
          refine e_op H rfl rfl (by decide) (x_move H rfl rfl) ?_
          clear H a; intro a H
          refine e_op H rfl rfl (by decide) (x_indexAddr H rfl rfl rfl (i_slN (m := k) (s := 4) under118 size123 rfl (by omega))) ?_
          clear H a; intro a H
          refine e_op H rfl rfl (by decide) (x_load H rfl rfl (l_part (cs := [.int .i64 4, .int .u64 (t : Int), .int .i64 lo, .int .i64 hi]) isAgg123 size123 hrow)) ?_
          clear H a; intro a H
          refine e_op H rfl rfl (by decide) (x_alloc H rfl (al_new (z123 _))) ?_
          clear H a; intro a H
          have D0 : Blk (w.alloc (.cells #[.int .i64 0, .int .u64 0, .int .i64 0, .int .i64 0] 123)) w.heap.size 123 [.int .i64 0, .int .u64 0, .int .i64 0, .int .i64 0] := Blk.new w 123 _
          have EA0 := (Ext.refl w).al (.cells #[.int .i64 0, .int .u64 0, .int .i64 0, .int .i64 0] 123)
          refine e_st H rfl rfl (x_store H rfl rfl rfl (st_row D0 (by kernel_rfl) rfl (by simp [Value.oneCell']))) ?_
          have k3 := D0.row [.int .i64 4, .int .u64 (t : Int), .int .i64 lo, .int .i64 hi]
          have EA := EA0.row_ (g := w.heap.size) (Nat.le_refl _) #[.int .i64 4, .int .u64 (t : Int), .int .i64 lo, .int .i64 hi]
          obtain ⟨gb, hgb⟩ : ∃ gb, gb = w.heap.size := ⟨_, rfl⟩
          rw [← hgb] at k3 hgW hgW2 hqb H EA hW0 ⊢
          generalize (w.alloc (.cells #[.int .i64 0, .int .u64 0, .int .i64 0, .int .i64 0] 123)).setRow gb #[.int .i64 4, .int .u64 (t : Int), .int .i64 lo, .int .i64 hi] = w3 at *
          have R3 := Rq.ext EA
          have Q3 := Q.ext EA
          have hgb3 := k3.lt
          clear D0 EA0 hrow d0 d1 d2 d3
          have E3W := E.tr EA
          have K1 := rByte_any g q ls er w3 R3
          have K2 : ∀ w6, Rr w6 g2 h ls er → Calls Try.prog 85 #[.pointer (some ⟨g2, 0, none⟩), .int .i64 4, .int .u64 (t : Int), .int .i64 lo, .int .i64 hi] w6 (RrPost ((rsByte ls er).val) [] (rsByte ls er).left (rsByte ls er).err g2 h w6) := fun w6 Q6 => rread4 g2 h ls er t lo hi w6 Q6
          have hlf := rsByte_left ls er
          have hvb := rsByte_val ls er
          generalize rsByte ls er = rs at *
          obtain ⟨v, lf, ee⟩ := rs
          unfold RsPost at K1
          dsimp only at K1 K2 hlf hvb
          refine e_nil (hR.out _ _ ?_)
          clear hR R
          refine hK90 _ _ ?_
          clear hK90 K90
          refine wp_seq_k (fun K91 hK91 => ?_)
          refine e_region (fun R hR => ?_)
          refine e_op H rfl rfl (by decide) (x_assign H rfl rfl) ?_
          clear H a; intro a H
          refine e_nil (hR.out _ _ ?_)
          clear hR R
          refine hK91 _ _ ?_
          clear hK91 K91
          refine wp_seq_k (fun K92 hK92 => ?_)
          refine e_region (fun R hR => ?_)
          refine e_op H rfl rfl (by decide) (x_assign H rfl rfl) ?_
          clear H a; intro a H
          refine e_nil (hR.out _ _ ?_)
          clear hR R
          refine hK92 _ _ ?_
          clear hK92 K92
          refine wp_seq_k (fun K93 hK93 => ?_)
          refine wp_seq_k (fun K94 hK94 => ?_)
          refine e_region (fun R hR => ?_)
          refine e_op H rfl rfl (by decide) (x_fieldAddr H rfl rfl (fa123_0 _ _)) ?_
          clear H a; intro a H
          refine e_op H rfl rfl (by decide) (x_load H rfl rfl (l_cell Try.isAgg3 (k3.at_ (i := 0) rfl))) ?_
          clear H a; intro a H
          refine e_nil (hR.out _ _ ?_)
          clear hR R
          refine hK94 _ _ ?_
          clear hK94 K94
          refine wp_block ?_
          refine wp_seq_k (fun K95 hK95 => ?_)
          refine e_region (fun R hR => ?_)
          refine e_op H rfl rfl (by decide) (x_binI H rfl rfl rfl (b_eql (b := false) (rfl))) ?_
          clear H a; intro a H
          refine e_op H rfl rfl (by decide) (x_assign H rfl rfl) ?_
          clear H a; intro a H
          refine e_nil (hR.out _ _ ?_)
          clear hR R
          refine hK95 _ _ ?_
          clear hK95 K95
          refine c_false H rfl ?_
          refine wp_seq_k (fun K96 hK96 => ?_)
          refine e_region (fun R hR => ?_)
          refine e_op H rfl rfl (by decide) (x_binI H rfl rfl rfl (b_eql (b := false) (rfl))) ?_
          clear H a; intro a H
          refine e_op H rfl rfl (by decide) (x_assign H rfl rfl) ?_
          clear H a; intro a H
          refine e_nil (hR.out _ _ ?_)
          clear hR R
          refine hK96 _ _ ?_
          clear hK96 K96
          refine c_false H rfl ?_
          refine wp_seq_k (fun K97 hK97 => ?_)
          refine e_region (fun R hR => ?_)
          refine e_op H rfl rfl (by decide) (x_binI H rfl rfl rfl (b_eql (b := false) (rfl))) ?_
          clear H a; intro a H
          refine e_op H rfl rfl (by decide) (x_assign H rfl rfl) ?_
          clear H a; intro a H
          refine e_nil (hR.out _ _ ?_)
          clear hR R
          refine hK97 _ _ ?_
          clear hK97 K97
          refine c_false H rfl ?_
          refine wp_seq_k (fun K98 hK98 => ?_)
          refine e_region (fun R hR => ?_)
          refine e_op H rfl rfl (by decide) (x_binI H rfl rfl rfl (b_eql (b := false) (rfl))) ?_
          clear H a; intro a H
          refine e_op H rfl rfl (by decide) (x_assign H rfl rfl) ?_
          clear H a; intro a H
          refine e_nil (hR.out _ _ ?_)
          clear hR R
          refine hK98 _ _ ?_
          clear hK98 K98
          refine c_false H rfl ?_
          refine wp_seq_k (fun K99 hK99 => ?_)
          refine e_region (fun R hR => ?_)
          refine e_op H rfl rfl (by decide) (x_binI H rfl rfl rfl (b_eql (b := true) (rfl))) ?_
          clear H a; intro a H
          refine e_op H rfl rfl (by decide) (x_assign H rfl rfl) ?_
          clear H a; intro a H
          refine e_nil (hR.out _ _ ?_)
          clear hR R
          refine hK99 _ _ ?_
          clear hK99 K99
          refine c_true H rfl ?_
          refine e_region (fun R hR => ?_)
          refine e_op H rfl rfl (by decide) (x_move H rfl rfl) ?_
          clear H a; intro a H
          refine e_callq H rfl rfl (by decide) rfl rfl (Try.call84 _) (K1) ?_
          clear H a
          rintro e w6 ⟨rfl, R6, F6⟩
          refine ⟨_, rfl, fun a H => ?_⟩
          have k6 := k3.frm F6 (by simp; omega)
          have Q6 := Q3.frm F6 (by simp; omega) (by simp; omega)
          have E6 := F6.ext E3W (fun x hx => by simp only [List.mem_singleton] at hx; omega)
          refine e_op H rfl rfl (by decide) (x_conv H rfl rfl (c_int (z := v) Try.underlying5 Try.underlying56 (by rw [IntKind.wrap_u64]; omega))) ?_
          clear H a; intro a H
          refine e_op H rfl rfl (by decide) (x_assign H rfl rfl) ?_
          clear H a; intro a H
          refine e_nil (hR.out _ _ ?_)
          clear hR R
          refine hK93 _ _ ?_
          clear hK93 K93
          refine wp_seq_k (fun K100 hK100 => ?_)
          refine e_region (fun R hR => ?_)
          refine e_op H rfl rfl (by decide) (x_move H rfl rfl) ?_
          clear H a; intro a H
          refine e_op H rfl rfl (by decide) (x_fieldAddr H rfl rfl (fa123_0 _ _)) ?_
          clear H a; intro a H
          refine e_op H rfl rfl (by decide) (x_load H rfl rfl (l_cell Try.isAgg3 (k6.at_ (i := 0) rfl))) ?_
          clear H a; intro a H
          refine e_op H rfl rfl (by decide) (x_fieldAddr H rfl rfl (fa123_1 _ _)) ?_
          clear H a; intro a H
          refine e_op H rfl rfl (by decide) (x_load H rfl rfl (l_cell Try.isAgg56 (k6.at_ (i := 1) rfl))) ?_
          clear H a; intro a H
          refine e_op H rfl rfl (by decide) (x_fieldAddr H rfl rfl (fa123_2 _ _)) ?_
          clear H a; intro a H
          refine e_op H rfl rfl (by decide) (x_load H rfl rfl (l_cell Try.isAgg3 (k6.at_ (i := 2) rfl))) ?_
          clear H a; intro a H
          refine e_op H rfl rfl (by decide) (x_fieldAddr H rfl rfl (fa123_3 _ _)) ?_
          clear H a; intro a H
          refine e_op H rfl rfl (by decide) (x_load H rfl rfl (l_cell Try.isAgg3 (k6.at_ (i := 3) rfl))) ?_
          clear H a; intro a H
          refine e_callq H rfl rfl (by decide) rfl rfl (Try.call85 _) (K2 _ Q6) ?_
          clear H a
          rintro e w7 ⟨a7, c7, rfl, b7, Q7, F7⟩
          refine ⟨_, rfl, fun a H => ?_⟩
          have hqa := R6.apart Q6
          have R7 := R6.frm0 F7 (by simp; omega) (fun hp => by have := hqa hp; simpa using this)
          have E7 := F7.ext E6 (fun x hx => by simp only [List.mem_singleton] at hx; omega)
          refine e_op H rfl rfl (by decide) (x_move H rfl rfl) ?_
          clear H a; intro a H
          refine e_op H rfl rfl (by decide) (x_extract H rfl rfl rfl) ?_
          clear H a; intro a H
          refine e_op H rfl rfl (by decide) (x_extract H rfl rfl rfl) ?_
          clear H a; intro a H
          refine e_op H rfl rfl (by decide) (x_assign H rfl rfl) ?_
          clear H a; intro a H
          refine e_op H rfl rfl (by decide) (x_assign H rfl rfl) ?_
          clear H a; intro a H
          refine e_nil (hR.out _ _ ?_)
          clear hR R
          refine hK100 _ _ ?_
          clear hK100 K100
          refine wp_seq_k (fun K101 hK101 => ?_)
          refine wp_seq_k (fun K102 hK102 => ?_)
          refine h_start (by kernel_rfl) (fun R hR => ?_)
          obtain ⟨hne8, a8, n8, c8, B7, S8, i1, i2, i3, i4⟩ := Q7.ext ((Ext.refl w7).dr)
          replace R7 := R7.ext ((Ext.refl w7).dr)
          replace b7 := (Ext.refl w7).dr.bs b7
          replace E7 := E7.dr
          obtain rfl := S8.leng
          generalize w7.drew = wq at *
          refine h_take 0 H rfl rfl rfl (by decide) (by kernel_rfl) (by kernel_rfl) (by kernel_rfl) (fun w' hSw => (x_move H rfl rfl)) ?_
          clear H a; intro a H
          refine h_take 1 H rfl rfl rfl (by decide) (by kernel_rfl) (by kernel_rfl) (by kernel_rfl) (fun w' hSw => (x_move H rfl rfl)) ?_
          clear H a; intro a H
          refine h_take 2 H rfl rfl rfl (by decide) (by kernel_rfl) (by kernel_rfl) (by kernel_rfl) (fun w' hSw => (x_binI H rfl rfl rfl (b_neq (b := false) (bn_f rfl)))) ?_
          clear H a; intro a H
          refine h_take 3 H rfl rfl rfl (by decide) (by kernel_rfl) (by kernel_rfl) (by kernel_rfl) (fun w' hSw => (x_move H rfl rfl)) ?_
          clear H a; intro a H
          refine h_takeg 4 H rfl (wanted_true H rfl rfl rfl rfl) rfl (by decide) (by kernel_rfl) (by kernel_rfl) (by kernel_rfl) (fun w' hSw => (x_move H rfl rfl)) ?_
          clear H a; intro a H
          refine h_takeg 5 H rfl (wanted_true H rfl rfl rfl rfl) rfl (by decide) (by kernel_rfl) (by kernel_rfl) (by kernel_rfl) (fun w' hSw => (x_move H rfl rfl)) ?_
          clear H a; intro a H
          refine h_call 6 H rfl (by kernel_rfl) (wanted_true H rfl rfl rfl rfl) rfl (by decide) rfl rfl (Try.call45 _) (same1_any none 0 0 a7 0 c7 [] [] _ (Bs.nil _ _) b7 (by omega)) ?_
          clear H a
          rintro e w8 ⟨rfl, E8⟩
          refine ⟨.bool true, by simp, E8, fun a H => ?_⟩
          have R8 := R7.ext E8
          have B8 := B7.ext E8
          have S9 := E8.bs S8
          have EC := E7.tr E8
          refine h_takeg 7 H rfl (wanted_true H rfl rfl rfl rfl) rfl (by decide) (by kernel_rfl) (by kernel_rfl) (by kernel_rfl) (fun w' hSw => (x_un H rfl rfl (u_not (c := false) (rfl)))) ?_
          clear H a; intro a H
          refine h_take 8 H rfl rfl rfl (by decide) (by kernel_rfl) (by kernel_rfl) (by kernel_rfl) (fun w' hSw => (x_pickF H rfl rfl rfl)) ?_
          clear H a; intro a H
          refine h_take 9 H rfl rfl rfl (by decide) (by kernel_rfl) (by kernel_rfl) (by kernel_rfl) (fun w' hSw => (x_move H rfl rfl)) ?_
          clear H a; intro a H
          refine h_takeg 10 H rfl (wanted_true H rfl rfl rfl rfl) rfl (by decide) (by kernel_rfl) (by kernel_rfl) (by kernel_rfl) (fun w' hSw => (x_move H rfl rfl)) ?_
          clear H a; intro a H
          refine h_takeg 12 H rfl (wanted_true H rfl rfl rfl rfl) rfl (by decide) (by kernel_rfl) (by kernel_rfl) (by kernel_rfl) (fun w' hSw => (x_move H rfl rfl)) ?_
          clear H a; intro a H
          refine h_takeg 13 H rfl (wanted_true H rfl rfl rfl rfl) rfl (by decide) (by kernel_rfl) (by kernel_rfl) (by kernel_rfl) (fun w' hSw => (x_nilCheck H rfl rfl)) ?_
          clear H a; intro a H
          refine h_takeg 14 H rfl (wanted_true H rfl rfl rfl rfl) rfl (by decide) (by kernel_rfl) (by kernel_rfl) (by kernel_rfl) (fun w' hSw => (x_fieldAddr H rfl rfl (fa121_1 _ _))) ?_
          clear H a; intro a H
          refine h_takeg 15 H rfl (wanted_true H rfl rfl rfl rfl) rfl (by decide) (by kernel_rfl) (by kernel_rfl) (by kernel_rfl) (fun w' hSw => (x_load H rfl rfl (l_cell Try.isAgg3 ((B8.ext hSw).at_ (i := 1) rfl)))) ?_
          clear H a; intro a H
          refine h_call 11 H rfl (by kernel_rfl) (wanted_true H rfl rfl rfl rfl) rfl (by decide) rfl rfl (Try.call86 _) (rErr_any g q lf ee _ R8) ?_
          clear H a
          rintro e w9 ⟨rfl, rfl⟩
          refine ⟨_, rfl, Ext.refl _, fun a H => ?_⟩
          refine h_takeg 16 H rfl (wanted_true H rfl rfl rfl rfl) rfl (by decide) (by kernel_rfl) (by kernel_rfl) (by kernel_rfl) (fun w' hSw => (x_binI H rfl rfl rfl (b_neq (b := false) (bn_f rfl)))) ?_
          clear H a; intro a H
          refine h_take 17 H rfl rfl rfl (by decide) (by kernel_rfl) (by kernel_rfl) (by kernel_rfl) (fun w' hSw => (x_pickF H rfl rfl rfl)) ?_
          clear H a; intro a H
          refine h_take 18 H rfl rfl rfl (by decide) (by kernel_rfl) (by kernel_rfl) (by kernel_rfl) (fun w' hSw => (x_move H rfl rfl)) ?_
          clear H a; intro a H
          refine h_takeg 19 H rfl (wanted_true H rfl rfl rfl rfl) rfl (by decide) (by kernel_rfl) (by kernel_rfl) (by kernel_rfl) (fun w' hSw => (x_move H rfl rfl)) ?_
          clear H a; intro a H
          refine h_takeg 21 H rfl (wanted_true H rfl rfl rfl rfl) rfl (by decide) (by kernel_rfl) (by kernel_rfl) (by kernel_rfl) (fun w' hSw => (x_move H rfl rfl)) ?_
          clear H a; intro a H
          refine h_takeg 22 H rfl (wanted_true H rfl rfl rfl rfl) rfl (by decide) (by kernel_rfl) (by kernel_rfl) (by kernel_rfl) (fun w' hSw => (x_nilCheck H rfl rfl)) ?_
          clear H a; intro a H
          refine h_takeg 23 H rfl (wanted_true H rfl rfl rfl rfl) rfl (by decide) (by kernel_rfl) (by kernel_rfl) (by kernel_rfl) (fun w' hSw => (x_fieldAddr H rfl rfl (fa121_0 _ _))) ?_
          clear H a; intro a H
          refine h_takeg 24 H rfl (wanted_true H rfl rfl rfl rfl) rfl (by decide) (by kernel_rfl) (by kernel_rfl) (by kernel_rfl) (fun w' hSw => (x_load H rfl rfl (l_cell Try.isAgg22 ((B8.ext hSw).at_ (i := 0) rfl)))) ?_
          clear H a; intro a H
          refine h_takeg 25 H rfl (wanted_true H rfl rfl rfl rfl) rfl (by decide) (by kernel_rfl) (by kernel_rfl) (by kernel_rfl) (fun w' hSw => (x_builtin H rfl rfl (fun cs => len_sl Try.underlying22))) ?_
          clear H a; intro a H
          refine h_call 20 H rfl (by kernel_rfl) (wanted_true H rfl rfl rfl rfl) rfl (by decide) rfl rfl (Try.call80 _) (rLeft_any g q lf ee _ R8) ?_
          clear H a
          rintro e w9 ⟨rfl, rfl⟩
          refine ⟨_, rfl, Ext.refl _, fun a H => ?_⟩
          refine h_takeg 26 H rfl (wanted_true H rfl rfl rfl rfl) rfl (by decide) (by kernel_rfl) (by kernel_rfl) (by kernel_rfl) (fun w' hSw => (x_binI H rfl rfl rfl (b_neq (b := false) (bn_f rfl)))) ?_
          clear H a; intro a H
          refine h_take 27 H rfl rfl rfl (by decide) (by kernel_rfl) (by kernel_rfl) (by kernel_rfl) (fun w' hSw => (x_pickF H rfl rfl rfl)) ?_
          clear H a; intro a H
          refine h_done (by kernel_rfl) (hR.out _ _ ?_)
          clear hR R
          have Q8 : Rr w8 g2 h lf ee := ⟨hne8, a8, _, c8, B8, S9, i1, i2, i3, i4⟩
          refine hK102 _ _ ?_
          clear hK102 K102
          refine c_false H rfl ?_
          refine wp_skip ?_
          refine hK101 _ _ ?_
          clear hK101 K101
          refine wp_seq_k (fun K103 hK103 => ?_)
          refine e_region (fun R hR => ?_)
          refine e_op H rfl rfl (by decide) (x_move H rfl rfl) ?_
          clear H a; intro a H
          refine e_op H rfl rfl (by decide) (x_builtin H rfl rfl (fun cs => len_sl Try.underlying22)) ?_
          clear H a; intro a H
          refine e_op H rfl rfl (by decide) (x_move H rfl rfl) ?_
          clear H a; intro a H
          refine e_nil (hR.out _ _ ?_)
          clear hR R
          refine hK103 _ _ ?_
          clear hK103 K103
          refine wp_block ?_
          refine wp_loop_ghost (fun n a w => n = 0 ∧ Has a 162 [(1, .slice (some ⟨b, off, none⟩) n2 c2), (6, .pointer (some ⟨g, 0, none⟩)), (7, .pointer (some ⟨g2, 0, none⟩)), (9, .int .i64 (k : Int)), (151, .int .i64 ((0 : Nat) : Int)), (152, .int .i64 0)] ∧ w = w8) (0) ?_ ?_
          · skip
            exact ⟨rfl, H.sub ⟨rfl, rfl, rfl, rfl, rfl, rfl, trivial⟩, rfl⟩
          · skip
            clear H a
            intro n a w hI
            obtain ⟨rfl, H, rfl⟩ := hI
            skip
            refine wp_seq_k (fun K104 hK104 => ?_)
            refine e_region (fun R hR => ?_)
            refine e_op H rfl rfl (by decide) (x_binI H rfl rfl rfl (b_lss (b := false) (rfl))) ?_
            clear H a; intro a H
            refine e_nil (hR.out _ _ ?_)
            clear hR R
            refine hK104 _ _ ?_
            clear hK104 K104
            refine wp_seq_k (fun K105 hK105 => ?_)
            refine c_false H rfl ?_
            refine wp_exit ?_
            refine t_exit ?_
            refine t_exit ?_
            refine b_hit ?_
            clear hK105 K105
            refine hK89 _ _ ?_
            clear hK89 K89
            refine e_region (fun R hR => ?_)
            refine e_op H rfl rfl (by decide) (x_move H rfl rfl) ?_
            clear H a; intro a H
            refine e_op H rfl rfl (by decide) (x_binI H rfl rfl rfl (b_add (z := ((k + 1 : Nat) : Int)) (by rw [IntKind.wrap_i64]; omega))) ?_
            clear H a; intro a H
            refine e_op H rfl rfl (by decide) (x_assign H rfl rfl) ?_
            clear H a; intro a H
            refine e_nil (hR.out _ _ ?_)
            clear hR R
            exact ⟨n2 - (k + 1), by omega, k + 1, lf, ee, by omega, rfl, H.sub ⟨rfl, rfl, rfl, rfl, trivial⟩, R8, Q8, EC⟩
        · skip
          obtain ⟨s, hs⟩ : ∃ s, ss[k]? = some s := ⟨_, List.getElem?_eq_getElem (by rw [h2.leng]; omega)⟩
          obtain ⟨hx1, ht1, hlo, hhi⟩ := hok s (List.mem_of_getElem? hs)
          obtain ⟨b, off, rfl, e0, e1, e2, e3⟩ := h2.cell k s hs
          rw [hs] at hxk
          obtain ⟨x, t, lo, hi⟩ := s
          replace hxk : xk = x := hxk
          simp only at hx1 ht1 hlo hhi e0 e1 e2 e3
          have d0 := E.cell e0
          have d1 := E.cell e1
          have d2 := E.cell e2
          have d3 := E.cell e3
          clear e0 e1 e2 e3
          have hgW : g < w.heap.size := by
            obtain ⟨_, a, n, c, B, _⟩ := Rq
            exact B.lt
          have hgW2 : g2 < w.heap.size := by
            obtain ⟨_, a, n, c, B, _⟩ := Q
            exact B.lt
          have hW0 := E.sz
          have hqb : 0 < ls.length → q < w.heap.size := fun hp => by
            obtain ⟨_, a, n, c, B, S, _, _, h3, _⟩ := Rq
            have := S.leng
            obtain ⟨b1, o1, e1, hc⟩ := S.cell 0 (by omega)
            obtain rfl := h3 b1 o1 e1
            exact World.block_lt_of_cell? w _ hc
          have hrow : ∀ j v, ([.int .i64 x, .int .u64 (t : Int), .int .i64 lo, .int .i64 hi] : List Value)[j]? = some v → w.cell? ⟨b, off + k * 4 + j, none⟩ = some v := by
            intro j v hv
            rcases j with _ | _ | _ | _ | j
            · simp at hv; subst hv; exact d0
            · simp at hv; subst hv; exact d1
            · simp at hv; subst hv; exact d2
            · simp at hv; subst hv; exact d3
            · simp at hv
          obtain rfl : er = 0 := by omega
          have hre : rsEnd ls 0 = 0 := by unfold rsEnd; rw [if_neg (by omega), if_pos (List.eq_nil_of_length_eq_zero hll)]
          refine wp_seq_k (fun K106 hK106 => ?_)
          refine wp_seq_k (fun K107 hK107 => ?_)
          refine e_region (fun R hR => ?_)
          refine e_op H rfl rfl (by decide) (x_move H rfl rfl) ?_
          clear H a; intro a H
          refine e_op H rfl rfl (by decide) (x_move H rfl rfl) ?_
          clear H a; intro a H
          refine e_op H rfl rfl (by decide) (x_builtin H rfl rfl (fun cs => len_sl under118)) ?_
          clear H a; intro a H
          refine e_op H rfl rfl (by decide) (x_binI H rfl rfl rfl (b_lss (b := true) (dc_t (by omega)))) ?_
          clear H a; intro a H
          refine e_op H rfl rfl (by decide) (x_move H rfl rfl) ?_
          clear H a; intro a H
          refine e_opg H (wanted_true H rfl rfl rfl rfl) rfl (by decide) (x_move H rfl rfl) ?_
          clear H a; intro a H
          refine e_opg H (wanted_true H rfl rfl rfl rfl) rfl (by decide) (x_binI H rfl rfl rfl (b_lss (b := true) (dc_t (by omega)))) ?_
          clear H a; intro a H
          refine e_op H rfl rfl (by decide) (x_pickT H rfl rfl rfl) ?_
          clear H a; intro a H
          refine e_nil (hR.out _ _ ?_)
          clear hR R
          refine hK107 _ _ ?_
          clear hK107 K107
          refine c_true H rfl ?_
          refine wp_skip ?_
          refine hK106 _ _ ?_
          clear hK106 K106
          refine wp_seq_k (fun K108 hK108 => ?_)
          refine wp_block ?_
          refine wp_seq_k (fun K109 hK109 => ?_)
          refine e_region (fun R hR => ?_)
          refine e_op H rfl rfl (by decide) (x_move H rfl rfl) ?_
          clear H a; intro a H
          refine e_op H rfl rfl (by decide) (x_move H rfl rfl) ?_
          clear H a; intro a H
          refine e_op H rfl rfl (by decide) (x_indexAddr H rfl rfl rfl (i_slN (m := k) (s := 4) under118 size123 rfl (by omega))) ?_
          clear H a; intro a H
          refine e_op H rfl rfl (by decide) (x_load H rfl rfl (l_part (cs := [.int .i64 x, .int .u64 (t : Int), .int .i64 lo, .int .i64 hi]) isAgg123 size123 hrow)) ?_
          clear H a; intro a H
          refine e_op H rfl rfl (by decide) (x_alloc H rfl (al_new (z123 _))) ?_
          clear H a; intro a H
          have D0 : Blk (w.alloc (.cells #[.int .i64 0, .int .u64 0, .int .i64 0, .int .i64 0] 123)) w.heap.size 123 [.int .i64 0, .int .u64 0, .int .i64 0, .int .i64 0] := Blk.new w 123 _
          have EA0 := (Ext.refl w).al (.cells #[.int .i64 0, .int .u64 0, .int .i64 0, .int .i64 0] 123)
          refine e_st H rfl rfl (x_store H rfl rfl rfl (st_row D0 (by kernel_rfl) rfl (by simp [Value.oneCell']))) ?_
          have k3 := D0.row [.int .i64 x, .int .u64 (t : Int), .int .i64 lo, .int .i64 hi]
          have EA := EA0.row_ (g := w.heap.size) (Nat.le_refl _) #[.int .i64 x, .int .u64 (t : Int), .int .i64 lo, .int .i64 hi]
          obtain ⟨gb, hgb⟩ : ∃ gb, gb = w.heap.size := ⟨_, rfl⟩
          rw [← hgb] at k3 hgW hgW2 hqb H EA hW0 ⊢
          generalize (w.alloc (.cells #[.int .i64 0, .int .u64 0, .int .i64 0, .int .i64 0] 123)).setRow gb #[.int .i64 x, .int .u64 (t : Int), .int .i64 lo, .int .i64 hi] = w3 at *
          have R3 := Rq.ext EA
          have Q3 := Q.ext EA
          have hgb3 := k3.lt
          clear D0 EA0 hrow d0 d1 d2 d3
          have Q3b := Q3
          obtain ⟨_, a8, n8, c8, B8, S8, _⟩ := Q3b
          have hl8 := S8.leng
          refine e_nil (hR.out _ _ ?_)
          clear hR R
          refine hK109 _ _ ?_
          clear hK109 K109
          refine wp_seq_k (fun K110 hK110 => ?_)
          refine e_region (fun R hR => ?_)
          refine e_op H rfl rfl (by decide) (x_assign H rfl rfl) ?_
          clear H a; intro a H
          refine e_nil (hR.out _ _ ?_)
          clear hR R
          refine hK110 _ _ ?_
          clear hK110 K110
          refine wp_seq_k (fun K111 hK111 => ?_)
          refine e_region (fun R hR => ?_)
          refine e_op H rfl rfl (by decide) (x_assign H rfl rfl) ?_
          clear H a; intro a H
          refine e_nil (hR.out _ _ ?_)
          clear hR R
          refine hK111 _ _ ?_
          clear hK111 K111
          refine wp_seq_k (fun K112 hK112 => ?_)
          refine wp_seq_k (fun K113 hK113 => ?_)
          refine e_region (fun R hR => ?_)
          refine e_op H rfl rfl (by decide) (x_fieldAddr H rfl rfl (fa123_0 _ _)) ?_
          clear H a; intro a H
          refine e_op H rfl rfl (by decide) (x_load H rfl rfl (l_cell Try.isAgg3 (k3.at_ (i := 0) rfl))) ?_
          clear H a; intro a H
          refine e_nil (hR.out _ _ ?_)
          clear hR R
          refine hK113 _ _ ?_
          clear hK113 K113
          refine wp_block ?_
          refine wp_seq_k (fun K114 hK114 => ?_)
          refine e_region (fun R hR => ?_)
          refine e_op H rfl rfl (by decide) (x_binI H rfl rfl rfl (b_eql (b := false) (bq_f (by omega)))) ?_
          clear H a; intro a H
          refine e_op H rfl rfl (by decide) (x_assign H rfl rfl) ?_
          clear H a; intro a H
          refine e_nil (hR.out _ _ ?_)
          clear hR R
          refine hK114 _ _ ?_
          clear hK114 K114
          refine c_false H rfl ?_
          refine wp_seq_k (fun K115 hK115 => ?_)
          refine e_region (fun R hR => ?_)
          refine e_op H rfl rfl (by decide) (x_binI H rfl rfl rfl (b_eql (b := false) (bq_f (by omega)))) ?_
          clear H a; intro a H
          refine e_op H rfl rfl (by decide) (x_assign H rfl rfl) ?_
          clear H a; intro a H
          refine e_nil (hR.out _ _ ?_)
          clear hR R
          refine hK115 _ _ ?_
          clear hK115 K115
          refine c_false H rfl ?_
          refine wp_seq_k (fun K116 hK116 => ?_)
          refine e_region (fun R hR => ?_)
          refine e_op H rfl rfl (by decide) (x_binI H rfl rfl rfl (b_eql (b := false) (bq_f (by omega)))) ?_
          clear H a; intro a H
          refine e_op H rfl rfl (by decide) (x_assign H rfl rfl) ?_
          clear H a; intro a H
          refine e_nil (hR.out _ _ ?_)
          clear hR R
          refine hK116 _ _ ?_
          clear hK116 K116
          refine c_false H rfl ?_
          refine wp_seq_k (fun K117 hK117 => ?_)
          refine e_region (fun R hR => ?_)
          refine e_op H rfl rfl (by decide) (x_binI H rfl rfl rfl (b_eql (b := false) (bq_f (by omega)))) ?_
          clear H a; intro a H
          refine e_op H rfl rfl (by decide) (x_assign H rfl rfl) ?_
          clear H a; intro a H
          refine e_nil (hR.out _ _ ?_)
          clear hR R
          refine hK117 _ _ ?_
          clear hK117 K117
          refine c_false H rfl ?_
          refine wp_seq_k (fun K118 hK118 => ?_)
          refine e_region (fun R hR => ?_)
          refine e_op H rfl rfl (by decide) (x_binI H rfl rfl rfl (b_eql (b := false) (bq_f (by omega)))) ?_
          clear H a; intro a H
          refine e_op H rfl rfl (by decide) (x_assign H rfl rfl) ?_
          clear H a; intro a H
          refine e_nil (hR.out _ _ ?_)
          clear hR R
          refine hK118 _ _ ?_
          clear hK118 K118
          refine c_false H rfl ?_
          refine wp_seq_k (fun K119 hK119 => ?_)
          refine e_region (fun R hR => ?_)
          refine e_op H rfl rfl (by decide) (x_move H rfl rfl) ?_
          clear H a; intro a H
          refine e_op H rfl rfl (by decide) (x_nilCheck H rfl rfl) ?_
          clear H a; intro a H
          refine e_op H rfl rfl (by decide) (x_fieldAddr H rfl rfl (fa121_1 _ _)) ?_
          clear H a; intro a H
          refine e_op H rfl rfl (by decide) (x_load H rfl rfl (l_cell Try.isAgg3 (B8.at_ (i := 1) rfl))) ?_
          clear H a; intro a H
          refine e_op H rfl rfl (by decide) (x_assign H rfl rfl) ?_
          clear H a; intro a H
          refine e_nil (hR.out _ _ ?_)
          clear hR R
          refine hK119 _ _ ?_
          clear hK119 K119
          refine wp_seq_k (fun K120 hK120 => ?_)
          refine wp_seq_k (fun K121 hK121 => ?_)
          refine e_region (fun R hR => ?_)
          refine e_op H rfl rfl (by decide) (x_move H rfl rfl) ?_
          clear H a; intro a H
          refine e_op H rfl rfl (by decide) (x_binI H rfl rfl rfl (b_eql (b := true) (rfl))) ?_
          clear H a; intro a H
          refine e_op H rfl rfl (by decide) (x_move H rfl rfl) ?_
          clear H a; intro a H
          refine e_opg H (wanted_true H rfl rfl rfl rfl) rfl (by decide) (x_move H rfl rfl) ?_
          clear H a; intro a H
          refine e_opg H (wanted_true H rfl rfl rfl rfl) rfl (by decide) (x_nilCheck H rfl rfl) ?_
          clear H a; intro a H
          refine e_opg H (wanted_true H rfl rfl rfl rfl) rfl (by decide) (x_fieldAddr H rfl rfl (fa121_0 _ _)) ?_
          clear H a; intro a H
          refine e_opg H (wanted_true H rfl rfl rfl rfl) rfl (by decide) (x_load H rfl rfl (l_cell Try.isAgg22 (B8.at_ (i := 0) rfl))) ?_
          clear H a; intro a H
          refine e_opg H (wanted_true H rfl rfl rfl rfl) rfl (by decide) (x_builtin H rfl rfl (fun cs => len_sl Try.underlying22)) ?_
          clear H a; intro a H
          refine e_opg H (wanted_true H rfl rfl rfl rfl) rfl (by decide) (x_binI H rfl rfl rfl (b_gtr (b := false) (dc_f (by omega)))) ?_
          clear H a; intro a H
          refine e_op H rfl rfl (by decide) (x_pickT H rfl rfl rfl) ?_
          clear H a; intro a H
          refine e_nil (hR.out _ _ ?_)
          clear hR R
          refine hK121 _ _ ?_
          clear hK121 K121
          refine c_false H rfl ?_
          refine wp_skip ?_
          refine hK120 _ _ ?_
          clear hK120 K120
          refine wp_seq_k (fun K122 hK122 => ?_)
          refine wp_seq_k (fun K123 hK123 => ?_)
          refine e_region (fun R hR => ?_)
          refine e_op H rfl rfl (by decide) (x_move H rfl rfl) ?_
          clear H a; intro a H
          refine e_callq H rfl rfl (by decide) rfl rfl (Try.call82 _) (rEnd_any g q ls 0 w3 R3) ?_
          clear H a
          rintro e w7 ⟨rfl, rfl⟩
          refine ⟨_, rfl, fun a H => ?_⟩
          refine e_op H rfl rfl (by decide) (x_move H rfl rfl) ?_
          clear H a; intro a H
          refine e_op H rfl rfl (by decide) (x_binI H rfl rfl rfl (b_neq (b := false) (by rw [hre]; rfl))) ?_
          clear H a; intro a H
          refine e_nil (hR.out _ _ ?_)
          clear hR R
          refine hK123 _ _ ?_
          clear hK123 K123
          refine c_false H rfl ?_
          refine wp_skip ?_
          refine hK122 _ _ ?_
          clear hK122 K122
          refine wp_exit ?_
          refine b_pass (by decide) ?_
          refine t_exit ?_
          refine b_hit ?_
          clear hK112 K112
          refine hK108 _ _ ?_
          clear hK108 K108
          refine e_region (fun R hR => ?_)
          refine e_op H rfl rfl (by decide) (x_move H rfl rfl) ?_
          clear H a; intro a H
          refine e_op H rfl rfl (by decide) (x_binI H rfl rfl rfl (b_add (z := ((k + 1 : Nat) : Int)) (by rw [IntKind.wrap_i64]; omega))) ?_
          clear H a; intro a H
          refine e_op H rfl rfl (by decide) (x_assign H rfl rfl) ?_
          clear H a; intro a H
          refine e_nil (hR.out _ _ ?_)
          clear hR R
          exact ⟨n2 - (k + 1), by omega, k + 1, ls, 0, by omega, rfl, H.sub ⟨rfl, rfl, rfl, rfl, trivial⟩, R3, Q3, E.tr EA⟩
        · skip
          obtain ⟨s, hs⟩ : ∃ s, ss[k]? = some s := ⟨_, List.getElem?_eq_getElem (by rw [h2.leng]; omega)⟩
          obtain ⟨hx1, ht1, hlo, hhi⟩ := hok s (List.mem_of_getElem? hs)
          obtain ⟨b, off, rfl, e0, e1, e2, e3⟩ := h2.cell k s hs
          rw [hs] at hxk
          obtain ⟨x, t, lo, hi⟩ := s
          replace hxk : xk = x := hxk
          simp only at hx1 ht1 hlo hhi e0 e1 e2 e3
          have d0 := E.cell e0
          have d1 := E.cell e1
          have d2 := E.cell e2
          have d3 := E.cell e3
          clear e0 e1 e2 e3
          have hgW : g < w.heap.size := by
            obtain ⟨_, a, n, c, B, _⟩ := Rq
            exact B.lt
          have hgW2 : g2 < w.heap.size := by
            obtain ⟨_, a, n, c, B, _⟩ := Q
            exact B.lt
          have hW0 := E.sz
          have hqb : 0 < ls.length → q < w.heap.size := fun hp => by
            obtain ⟨_, a, n, c, B, S, _, _, h3, _⟩ := Rq
            have := S.leng
            obtain ⟨b1, o1, e1, hc⟩ := S.cell 0 (by omega)
            obtain rfl := h3 b1 o1 e1
            exact World.block_lt_of_cell? w _ hc
          have hrow : ∀ j v, ([.int .i64 x, .int .u64 (t : Int), .int .i64 lo, .int .i64 hi] : List Value)[j]? = some v → w.cell? ⟨b, off + k * 4 + j, none⟩ = some v := by
            intro j v hv
            rcases j with _ | _ | _ | _ | j
            · simp at hv; subst hv; exact d0
            · simp at hv; subst hv; exact d1
            · simp at hv; subst hv; exact d2
            · simp at hv; subst hv; exact d3
            · simp at hv
          obtain rfl : er = 0 := by omega
          have hre : rsEnd ls 0 = 6 := by unfold rsEnd; rw [if_neg (by omega), if_neg (by intro h0; rw [h0] at hll; simp at hll)]
          refine wp_seq_k (fun K124 hK124 => ?_)
          refine wp_seq_k (fun K125 hK125 => ?_)
          refine e_region (fun R hR => ?_)
          refine e_op H rfl rfl (by decide) (x_move H rfl rfl) ?_
          clear H a; intro a H
          refine e_op H rfl rfl (by decide) (x_move H rfl rfl) ?_
          clear H a; intro a H
          refine e_op H rfl rfl (by decide) (x_builtin H rfl rfl (fun cs => len_sl under118)) ?_
          clear H a; intro a H
          refine e_op H rfl rfl (by decide) (x_binI H rfl rfl rfl (b_lss (b := true) (dc_t (by omega)))) ?_
          clear H a; intro a H
          refine e_op H rfl rfl (by decide) (x_move H rfl rfl) ?_
          clear H a; intro a H
          refine e_opg H (wanted_true H rfl rfl rfl rfl) rfl (by decide) (x_move H rfl rfl) ?_
          clear H a; intro a H
          refine e_opg H (wanted_true H rfl rfl rfl rfl) rfl (by decide) (x_binI H rfl rfl rfl (b_lss (b := true) (dc_t (by omega)))) ?_
          clear H a; intro a H
          refine e_op H rfl rfl (by decide) (x_pickT H rfl rfl rfl) ?_
          clear H a; intro a H
          refine e_nil (hR.out _ _ ?_)
          clear hR R
          refine hK125 _ _ ?_
          clear hK125 K125
          refine c_true H rfl ?_
          refine wp_skip ?_
          refine hK124 _ _ ?_
          clear hK124 K124
          refine wp_seq_k (fun K126 hK126 => ?_)
          refine wp_block ?_
          refine wp_seq_k (fun K127 hK127 => ?_)
          refine e_region (fun R hR => ?_)
          refine e_op H rfl rfl (by decide) (x_move H rfl rfl) ?_
          clear H a; intro a H
          refine e_op H rfl rfl (by decide) (x_move H rfl rfl) ?_
          clear H a; intro a H
          refine e_op H rfl rfl (by decide) (x_indexAddr H rfl rfl rfl (i_slN (m := k) (s := 4) under118 size123 rfl (by omega))) ?_
          clear H a; intro a H
          refine e_op H rfl rfl (by decide) (x_load H rfl rfl (l_part (cs := [.int .i64 x, .int .u64 (t : Int), .int .i64 lo, .int .i64 hi]) isAgg123 size123 hrow)) ?_
          clear H a; intro a H
          refine e_op H rfl rfl (by decide) (x_alloc H rfl (al_new (z123 _))) ?_
          clear H a; intro a H
          have D0 : Blk (w.alloc (.cells #[.int .i64 0, .int .u64 0, .int .i64 0, .int .i64 0] 123)) w.heap.size 123 [.int .i64 0, .int .u64 0, .int .i64 0, .int .i64 0] := Blk.new w 123 _
          have EA0 := (Ext.refl w).al (.cells #[.int .i64 0, .int .u64 0, .int .i64 0, .int .i64 0] 123)
          refine e_st H rfl rfl (x_store H rfl rfl rfl (st_row D0 (by kernel_rfl) rfl (by simp [Value.oneCell']))) ?_
          have k3 := D0.row [.int .i64 x, .int .u64 (t : Int), .int .i64 lo, .int .i64 hi]
          have EA := EA0.row_ (g := w.heap.size) (Nat.le_refl _) #[.int .i64 x, .int .u64 (t : Int), .int .i64 lo, .int .i64 hi]
          obtain ⟨gb, hgb⟩ : ∃ gb, gb = w.heap.size := ⟨_, rfl⟩
          rw [← hgb] at k3 hgW hgW2 hqb H EA hW0 ⊢
          generalize (w.alloc (.cells #[.int .i64 0, .int .u64 0, .int .i64 0, .int .i64 0] 123)).setRow gb #[.int .i64 x, .int .u64 (t : Int), .int .i64 lo, .int .i64 hi] = w3 at *
          have R3 := Rq.ext EA
          have Q3 := Q.ext EA
          have hgb3 := k3.lt
          clear D0 EA0 hrow d0 d1 d2 d3
          have Q3b := Q3
          obtain ⟨_, a8, n8, c8, B8, S8, _⟩ := Q3b
          have hl8 := S8.leng
          refine e_nil (hR.out _ _ ?_)
          clear hR R
          refine hK127 _ _ ?_
          clear hK127 K127
          refine wp_seq_k (fun K128 hK128 => ?_)
          refine e_region (fun R hR => ?_)
          refine e_op H rfl rfl (by decide) (x_assign H rfl rfl) ?_
          clear H a; intro a H
          refine e_nil (hR.out _ _ ?_)
          clear hR R
          refine hK128 _ _ ?_
          clear hK128 K128
          refine wp_seq_k (fun K129 hK129 => ?_)
          refine e_region (fun R hR => ?_)
          refine e_op H rfl rfl (by decide) (x_assign H rfl rfl) ?_
          clear H a; intro a H
          refine e_nil (hR.out _ _ ?_)
          clear hR R
          refine hK129 _ _ ?_
          clear hK129 K129
          refine wp_seq_k (fun K130 hK130 => ?_)
          refine wp_seq_k (fun K131 hK131 => ?_)
          refine e_region (fun R hR => ?_)
          refine e_op H rfl rfl (by decide) (x_fieldAddr H rfl rfl (fa123_0 _ _)) ?_
          clear H a; intro a H
          refine e_op H rfl rfl (by decide) (x_load H rfl rfl (l_cell Try.isAgg3 (k3.at_ (i := 0) rfl))) ?_
          clear H a; intro a H
          refine e_nil (hR.out _ _ ?_)
          clear hR R
          refine hK131 _ _ ?_
          clear hK131 K131
          refine wp_block ?_
          refine wp_seq_k (fun K132 hK132 => ?_)
          refine e_region (fun R hR => ?_)
          refine e_op H rfl rfl (by decide) (x_binI H rfl rfl rfl (b_eql (b := false) (bq_f (by omega)))) ?_
          clear H a; intro a H
          refine e_op H rfl rfl (by decide) (x_assign H rfl rfl) ?_
          clear H a; intro a H
          refine e_nil (hR.out _ _ ?_)
          clear hR R
          refine hK132 _ _ ?_
          clear hK132 K132
          refine c_false H rfl ?_
          refine wp_seq_k (fun K133 hK133 => ?_)
          refine e_region (fun R hR => ?_)
          refine e_op H rfl rfl (by decide) (x_binI H rfl rfl rfl (b_eql (b := false) (bq_f (by omega)))) ?_
          clear H a; intro a H
          refine e_op H rfl rfl (by decide) (x_assign H rfl rfl) ?_
          clear H a; intro a H
          refine e_nil (hR.out _ _ ?_)
          clear hR R
          refine hK133 _ _ ?_
          clear hK133 K133
          refine c_false H rfl ?_
          refine wp_seq_k (fun K134 hK134 => ?_)
          refine e_region (fun R hR => ?_)
          refine e_op H rfl rfl (by decide) (x_binI H rfl rfl rfl (b_eql (b := false) (bq_f (by omega)))) ?_
          clear H a; intro a H
          refine e_op H rfl rfl (by decide) (x_assign H rfl rfl) ?_
          clear H a; intro a H
          refine e_nil (hR.out _ _ ?_)
          clear hR R
          refine hK134 _ _ ?_
          clear hK134 K134
          refine c_false H rfl ?_
          refine wp_seq_k (fun K135 hK135 => ?_)
          refine e_region (fun R hR => ?_)
          refine e_op H rfl rfl (by decide) (x_binI H rfl rfl rfl (b_eql (b := false) (bq_f (by omega)))) ?_
          clear H a; intro a H
          refine e_op H rfl rfl (by decide) (x_assign H rfl rfl) ?_
          clear H a; intro a H
          refine e_nil (hR.out _ _ ?_)
          clear hR R
          refine hK135 _ _ ?_
          clear hK135 K135
          refine c_false H rfl ?_
          refine wp_seq_k (fun K136 hK136 => ?_)
          refine e_region (fun R hR => ?_)
          refine e_op H rfl rfl (by decide) (x_binI H rfl rfl rfl (b_eql (b := false) (bq_f (by omega)))) ?_
          clear H a; intro a H
          refine e_op H rfl rfl (by decide) (x_assign H rfl rfl) ?_
          clear H a; intro a H
          refine e_nil (hR.out _ _ ?_)
          clear hR R
          refine hK136 _ _ ?_
          clear hK136 K136
          refine c_false H rfl ?_
          refine wp_seq_k (fun K137 hK137 => ?_)
          refine e_region (fun R hR => ?_)
          refine e_op H rfl rfl (by decide) (x_move H rfl rfl) ?_
          clear H a; intro a H
          refine e_op H rfl rfl (by decide) (x_nilCheck H rfl rfl) ?_
          clear H a; intro a H
          refine e_op H rfl rfl (by decide) (x_fieldAddr H rfl rfl (fa121_1 _ _)) ?_
          clear H a; intro a H
          refine e_op H rfl rfl (by decide) (x_load H rfl rfl (l_cell Try.isAgg3 (B8.at_ (i := 1) rfl))) ?_
          clear H a; intro a H
          refine e_op H rfl rfl (by decide) (x_assign H rfl rfl) ?_
          clear H a; intro a H
          refine e_nil (hR.out _ _ ?_)
          clear hR R
          refine hK137 _ _ ?_
          clear hK137 K137
          refine wp_seq_k (fun K138 hK138 => ?_)
          refine wp_seq_k (fun K139 hK139 => ?_)
          refine e_region (fun R hR => ?_)
          refine e_op H rfl rfl (by decide) (x_move H rfl rfl) ?_
          clear H a; intro a H
          refine e_op H rfl rfl (by decide) (x_binI H rfl rfl rfl (b_eql (b := true) (rfl))) ?_
          clear H a; intro a H
          refine e_op H rfl rfl (by decide) (x_move H rfl rfl) ?_
          clear H a; intro a H
          refine e_opg H (wanted_true H rfl rfl rfl rfl) rfl (by decide) (x_move H rfl rfl) ?_
          clear H a; intro a H
          refine e_opg H (wanted_true H rfl rfl rfl rfl) rfl (by decide) (x_nilCheck H rfl rfl) ?_
          clear H a; intro a H
          refine e_opg H (wanted_true H rfl rfl rfl rfl) rfl (by decide) (x_fieldAddr H rfl rfl (fa121_0 _ _)) ?_
          clear H a; intro a H
          refine e_opg H (wanted_true H rfl rfl rfl rfl) rfl (by decide) (x_load H rfl rfl (l_cell Try.isAgg22 (B8.at_ (i := 0) rfl))) ?_
          clear H a; intro a H
          refine e_opg H (wanted_true H rfl rfl rfl rfl) rfl (by decide) (x_builtin H rfl rfl (fun cs => len_sl Try.underlying22)) ?_
          clear H a; intro a H
          refine e_opg H (wanted_true H rfl rfl rfl rfl) rfl (by decide) (x_binI H rfl rfl rfl (b_gtr (b := true) (dc_t (by omega)))) ?_
          clear H a; intro a H
          refine e_op H rfl rfl (by decide) (x_pickT H rfl rfl rfl) ?_
          clear H a; intro a H
          refine e_nil (hR.out _ _ ?_)
          clear hR R
          refine hK139 _ _ ?_
          clear hK139 K139
          refine c_true H rfl ?_
          refine e_region (fun R hR => ?_)
          refine e_op H rfl rfl (by decide) (x_assign H rfl rfl) ?_
          clear H a; intro a H
          refine e_nil (hR.out _ _ ?_)
          clear hR R
          refine hK138 _ _ ?_
          clear hK138 K138
          refine wp_seq_k (fun K140 hK140 => ?_)
          refine wp_seq_k (fun K141 hK141 => ?_)
          refine e_region (fun R hR => ?_)
          refine e_op H rfl rfl (by decide) (x_move H rfl rfl) ?_
          clear H a; intro a H
          refine e_callq H rfl rfl (by decide) rfl rfl (Try.call82 _) (rEnd_any g q ls 0 w3 R3) ?_
          clear H a
          rintro e w7 ⟨rfl, rfl⟩
          refine ⟨_, rfl, fun a H => ?_⟩
          refine e_op H rfl rfl (by decide) (x_move H rfl rfl) ?_
          clear H a; intro a H
          refine e_op H rfl rfl (by decide) (x_binI H rfl rfl rfl (b_neq (b := false) (by rw [hre]; rfl))) ?_
          clear H a; intro a H
          refine e_nil (hR.out _ _ ?_)
          clear hR R
          refine hK141 _ _ ?_
          clear hK141 K141
          refine c_false H rfl ?_
          refine wp_skip ?_
          refine hK140 _ _ ?_
          clear hK140 K140
          refine wp_exit ?_
          refine b_pass (by decide) ?_
          refine t_exit ?_
          refine b_hit ?_
          clear hK130 K130
          refine hK126 _ _ ?_
          clear hK126 K126
          refine e_region (fun R hR => ?_)
          refine e_op H rfl rfl (by decide) (x_move H rfl rfl) ?_
          clear H a; intro a H
          refine e_op H rfl rfl (by decide) (x_binI H rfl rfl rfl (b_add (z := ((k + 1 : Nat) : Int)) (by rw [IntKind.wrap_i64]; omega))) ?_
          clear H a; intro a H
          refine e_op H rfl rfl (by decide) (x_assign H rfl rfl) ?_
          clear H a; intro a H
          refine e_nil (hR.out _ _ ?_)
          clear hR R
          exact ⟨n2 - (k + 1), by omega, k + 1, ls, 0, by omega, rfl, H.sub ⟨rfl, rfl, rfl, rfl, trivial⟩, R3, Q3, E.tr EA⟩
        · skip
          obtain ⟨s, hs⟩ : ∃ s, ss[k]? = some s := ⟨_, List.getElem?_eq_getElem (by rw [h2.leng]; omega)⟩
          obtain ⟨hx1, ht1, hlo, hhi⟩ := hok s (List.mem_of_getElem? hs)
          obtain ⟨b, off, rfl, e0, e1, e2, e3⟩ := h2.cell k s hs
          rw [hs] at hxk
          obtain ⟨x, t, lo, hi⟩ := s
          replace hxk : xk = x := hxk
          simp only at hx1 ht1 hlo hhi e0 e1 e2 e3
          have d0 := E.cell e0
          have d1 := E.cell e1
          have d2 := E.cell e2
          have d3 := E.cell e3
          clear e0 e1 e2 e3
          have hgW : g < w.heap.size := by
            obtain ⟨_, a, n, c, B, _⟩ := Rq
            exact B.lt
          have hgW2 : g2 < w.heap.size := by
            obtain ⟨_, a, n, c, B, _⟩ := Q
            exact B.lt
          have hW0 := E.sz
          have hqb : 0 < ls.length → q < w.heap.size := fun hp => by
            obtain ⟨_, a, n, c, B, S, _, _, h3, _⟩ := Rq
            have := S.leng
            obtain ⟨b1, o1, e1, hc⟩ := S.cell 0 (by omega)
            obtain rfl := h3 b1 o1 e1
            exact World.block_lt_of_cell? w _ hc
          have hrow : ∀ j v, ([.int .i64 x, .int .u64 (t : Int), .int .i64 lo, .int .i64 hi] : List Value)[j]? = some v → w.cell? ⟨b, off + k * 4 + j, none⟩ = some v := by
            intro j v hv
            rcases j with _ | _ | _ | _ | j
            · simp at hv; subst hv; exact d0
            · simp at hv; subst hv; exact d1
            · simp at hv; subst hv; exact d2
            · simp at hv; subst hv; exact d3
            · simp at hv
          have hre : rsEnd ls er = er := by unfold rsEnd; rw [if_pos (by omega)]
          refine wp_seq_k (fun K142 hK142 => ?_)
          refine wp_seq_k (fun K143 hK143 => ?_)
          refine e_region (fun R hR => ?_)
          refine e_op H rfl rfl (by decide) (x_move H rfl rfl) ?_
          clear H a; intro a H
          refine e_op H rfl rfl (by decide) (x_move H rfl rfl) ?_
          clear H a; intro a H
          refine e_op H rfl rfl (by decide) (x_builtin H rfl rfl (fun cs => len_sl under118)) ?_
          clear H a; intro a H
          refine e_op H rfl rfl (by decide) (x_binI H rfl rfl rfl (b_lss (b := true) (dc_t (by omega)))) ?_
          clear H a; intro a H
          refine e_op H rfl rfl (by decide) (x_move H rfl rfl) ?_
          clear H a; intro a H
          refine e_opg H (wanted_true H rfl rfl rfl rfl) rfl (by decide) (x_move H rfl rfl) ?_
          clear H a; intro a H
          refine e_opg H (wanted_true H rfl rfl rfl rfl) rfl (by decide) (x_binI H rfl rfl rfl (b_lss (b := true) (dc_t (by omega)))) ?_
          clear H a; intro a H
          refine e_op H rfl rfl (by decide) (x_pickT H rfl rfl rfl) ?_
          clear H a; intro a H
          refine e_nil (hR.out _ _ ?_)
          clear hR R
          refine hK143 _ _ ?_
          clear hK143 K143
          refine c_true H rfl ?_
          refine wp_skip ?_
          refine hK142 _ _ ?_
          clear hK142 K142
          refine wp_seq_k (fun K144 hK144 => ?_)
          refine wp_block ?_
          refine wp_seq_k (fun K145 hK145 => ?_)
          refine e_region (fun R hR => ?_)
          refine e_op H rfl rfl (by decide) (x_move H rfl rfl) ?_
          clear H a; intro a H
          refine e_op H rfl rfl (by decide) (x_move H rfl rfl) ?_
          clear H a; intro a H
          refine e_op H rfl rfl (by decide) (x_indexAddr H rfl rfl rfl (i_slN (m := k) (s := 4) under118 size123 rfl (by omega))) ?_
          clear H a; intro a H
          refine e_op H rfl rfl (by decide) (x_load H rfl rfl (l_part (cs := [.int .i64 x, .int .u64 (t : Int), .int .i64 lo, .int .i64 hi]) isAgg123 size123 hrow)) ?_
          clear H a; intro a H
          refine e_op H rfl rfl (by decide) (x_alloc H rfl (al_new (z123 _))) ?_
          clear H a; intro a H
          have D0 : Blk (w.alloc (.cells #[.int .i64 0, .int .u64 0, .int .i64 0, .int .i64 0] 123)) w.heap.size 123 [.int .i64 0, .int .u64 0, .int .i64 0, .int .i64 0] := Blk.new w 123 _
          have EA0 := (Ext.refl w).al (.cells #[.int .i64 0, .int .u64 0, .int .i64 0, .int .i64 0] 123)
          refine e_st H rfl rfl (x_store H rfl rfl rfl (st_row D0 (by kernel_rfl) rfl (by simp [Value.oneCell']))) ?_
          have k3 := D0.row [.int .i64 x, .int .u64 (t : Int), .int .i64 lo, .int .i64 hi]
          have EA := EA0.row_ (g := w.heap.size) (Nat.le_refl _) #[.int .i64 x, .int .u64 (t : Int), .int .i64 lo, .int .i64 hi]
          obtain ⟨gb, hgb⟩ : ∃ gb, gb = w.heap.size := ⟨_, rfl⟩
          rw [← hgb] at k3 hgW hgW2 hqb H EA hW0 ⊢
          generalize (w.alloc (.cells #[.int .i64 0, .int .u64 0, .int .i64 0, .int .i64 0] 123)).setRow gb #[.int .i64 x, .int .u64 (t : Int), .int .i64 lo, .int .i64 hi] = w3 at *
          have R3 := Rq.ext EA
          have Q3 := Q.ext EA
          have hgb3 := k3.lt
          clear D0 EA0 hrow d0 d1 d2 d3
          have Q3b := Q3
          obtain ⟨_, a8, n8, c8, B8, S8, _⟩ := Q3b
          have hl8 := S8.leng
          refine e_nil (hR.out _ _ ?_)
          clear hR R
          refine hK145 _ _ ?_
          clear hK145 K145
          refine wp_seq_k (fun K146 hK146 => ?_)
          refine e_region (fun R hR => ?_)
          refine e_op H rfl rfl (by decide) (x_assign H rfl rfl) ?_
          clear H a; intro a H
          refine e_nil (hR.out _ _ ?_)
          clear hR R
          refine hK146 _ _ ?_
          clear hK146 K146
          refine wp_seq_k (fun K147 hK147 => ?_)
          refine e_region (fun R hR => ?_)
          refine e_op H rfl rfl (by decide) (x_assign H rfl rfl) ?_
          clear H a; intro a H
          refine e_nil (hR.out _ _ ?_)
          clear hR R
          refine hK147 _ _ ?_
          clear hK147 K147
          refine wp_seq_k (fun K148 hK148 => ?_)
          refine wp_seq_k (fun K149 hK149 => ?_)
          refine e_region (fun R hR => ?_)
          refine e_op H rfl rfl (by decide) (x_fieldAddr H rfl rfl (fa123_0 _ _)) ?_
          clear H a; intro a H
          refine e_op H rfl rfl (by decide) (x_load H rfl rfl (l_cell Try.isAgg3 (k3.at_ (i := 0) rfl))) ?_
          clear H a; intro a H
          refine e_nil (hR.out _ _ ?_)
          clear hR R
          refine hK149 _ _ ?_
          clear hK149 K149
          refine wp_block ?_
          refine wp_seq_k (fun K150 hK150 => ?_)
          refine e_region (fun R hR => ?_)
          refine e_op H rfl rfl (by decide) (x_binI H rfl rfl rfl (b_eql (b := false) (bq_f (by omega)))) ?_
          clear H a; intro a H
          refine e_op H rfl rfl (by decide) (x_assign H rfl rfl) ?_
          clear H a; intro a H
          refine e_nil (hR.out _ _ ?_)
          clear hR R
          refine hK150 _ _ ?_
          clear hK150 K150
          refine c_false H rfl ?_
          refine wp_seq_k (fun K151 hK151 => ?_)
          refine e_region (fun R hR => ?_)
          refine e_op H rfl rfl (by decide) (x_binI H rfl rfl rfl (b_eql (b := false) (bq_f (by omega)))) ?_
          clear H a; intro a H
          refine e_op H rfl rfl (by decide) (x_assign H rfl rfl) ?_
          clear H a; intro a H
          refine e_nil (hR.out _ _ ?_)
          clear hR R
          refine hK151 _ _ ?_
          clear hK151 K151
          refine c_false H rfl ?_
          refine wp_seq_k (fun K152 hK152 => ?_)
          refine e_region (fun R hR => ?_)
          refine e_op H rfl rfl (by decide) (x_binI H rfl rfl rfl (b_eql (b := false) (bq_f (by omega)))) ?_
          clear H a; intro a H
          refine e_op H rfl rfl (by decide) (x_assign H rfl rfl) ?_
          clear H a; intro a H
          refine e_nil (hR.out _ _ ?_)
          clear hR R
          refine hK152 _ _ ?_
          clear hK152 K152
          refine c_false H rfl ?_
          refine wp_seq_k (fun K153 hK153 => ?_)
          refine e_region (fun R hR => ?_)
          refine e_op H rfl rfl (by decide) (x_binI H rfl rfl rfl (b_eql (b := false) (bq_f (by omega)))) ?_
          clear H a; intro a H
          refine e_op H rfl rfl (by decide) (x_assign H rfl rfl) ?_
          clear H a; intro a H
          refine e_nil (hR.out _ _ ?_)
          clear hR R
          refine hK153 _ _ ?_
          clear hK153 K153
          refine c_false H rfl ?_
          refine wp_seq_k (fun K154 hK154 => ?_)
          refine e_region (fun R hR => ?_)
          refine e_op H rfl rfl (by decide) (x_binI H rfl rfl rfl (b_eql (b := false) (bq_f (by omega)))) ?_
          clear H a; intro a H
          refine e_op H rfl rfl (by decide) (x_assign H rfl rfl) ?_
          clear H a; intro a H
          refine e_nil (hR.out _ _ ?_)
          clear hR R
          refine hK154 _ _ ?_
          clear hK154 K154
          refine c_false H rfl ?_
          refine wp_seq_k (fun K155 hK155 => ?_)
          refine e_region (fun R hR => ?_)
          refine e_op H rfl rfl (by decide) (x_move H rfl rfl) ?_
          clear H a; intro a H
          refine e_op H rfl rfl (by decide) (x_nilCheck H rfl rfl) ?_
          clear H a; intro a H
          refine e_op H rfl rfl (by decide) (x_fieldAddr H rfl rfl (fa121_1 _ _)) ?_
          clear H a; intro a H
          refine e_op H rfl rfl (by decide) (x_load H rfl rfl (l_cell Try.isAgg3 (B8.at_ (i := 1) rfl))) ?_
          clear H a; intro a H
          refine e_op H rfl rfl (by decide) (x_assign H rfl rfl) ?_
          clear H a; intro a H
          refine e_nil (hR.out _ _ ?_)
          clear hR R
          refine hK155 _ _ ?_
          clear hK155 K155
          refine wp_seq_k (fun K156 hK156 => ?_)
          refine wp_seq_k (fun K157 hK157 => ?_)
          refine e_region (fun R hR => ?_)
          refine e_op H rfl rfl (by decide) (x_move H rfl rfl) ?_
          clear H a; intro a H
          refine e_op H rfl rfl (by decide) (x_binI H rfl rfl rfl (b_eql (b := false) (bq_f (by omega)))) ?_
          clear H a; intro a H
          refine e_op H rfl rfl (by decide) (x_move H rfl rfl) ?_
          clear H a; intro a H
          refine e_skip H (wanted_false H rfl rfl rfl rfl) rfl (by decide) ?_
          clear H a; intro a H
          refine e_skip H (wanted_false H rfl rfl rfl rfl) rfl (by decide) ?_
          clear H a; intro a H
          refine e_skip H (wanted_false H rfl rfl rfl rfl) rfl (by decide) ?_
          clear H a; intro a H
          refine e_skip H (wanted_false H rfl rfl rfl rfl) rfl (by decide) ?_
          clear H a; intro a H
          refine e_skip H (wanted_false H rfl rfl rfl rfl) rfl (by decide) ?_
          clear H a; intro a H
          refine e_skip H (wanted_false H rfl rfl rfl rfl) rfl (by decide) ?_
          clear H a; intro a H
          refine e_op H rfl rfl (by decide) (x_pickF H rfl rfl rfl) ?_
          clear H a; intro a H
          refine e_nil (hR.out _ _ ?_)
          clear hR R
          refine hK157 _ _ ?_
          clear hK157 K157
          refine c_false H rfl ?_
          refine wp_skip ?_
          refine hK156 _ _ ?_
          clear hK156 K156
          refine wp_seq_k (fun K158 hK158 => ?_)
          refine wp_seq_k (fun K159 hK159 => ?_)
          refine e_region (fun R hR => ?_)
          refine e_op H rfl rfl (by decide) (x_move H rfl rfl) ?_
          clear H a; intro a H
          refine e_callq H rfl rfl (by decide) rfl rfl (Try.call82 _) (rEnd_any g q ls er w3 R3) ?_
          clear H a
          rintro e w7 ⟨rfl, rfl⟩
          refine ⟨_, rfl, fun a H => ?_⟩
          refine e_op H rfl rfl (by decide) (x_move H rfl rfl) ?_
          clear H a; intro a H
          refine e_op H rfl rfl (by decide) (x_binI H rfl rfl rfl (b_neq (b := false) (by rw [hre]; simp))) ?_
          clear H a; intro a H
          refine e_nil (hR.out _ _ ?_)
          clear hR R
          refine hK159 _ _ ?_
          clear hK159 K159
          refine c_false H rfl ?_
          refine wp_skip ?_
          refine hK158 _ _ ?_
          clear hK158 K158
          refine wp_exit ?_
          refine b_pass (by decide) ?_
          refine t_exit ?_
          refine b_hit ?_
          clear hK148 K148
          refine hK144 _ _ ?_
          clear hK144 K144
          refine e_region (fun R hR => ?_)
          refine e_op H rfl rfl (by decide) (x_move H rfl rfl) ?_
          clear H a; intro a H
          refine e_op H rfl rfl (by decide) (x_binI H rfl rfl rfl (b_add (z := ((k + 1 : Nat) : Int)) (by rw [IntKind.wrap_i64]; omega))) ?_
          clear H a; intro a H
          refine e_op H rfl rfl (by decide) (x_assign H rfl rfl) ?_
          clear H a; intro a H
          refine e_nil (hR.out _ _ ?_)
          clear hR R
          exact ⟨n2 - (k + 1), by omega, k + 1, ls, er, by omega, rfl, H.sub ⟨rfl, rfl, rfl, rfl, trivial⟩, R3, Q3, E.tr EA⟩
        · skip
          skip
          refine wp_seq_k (fun K160 hK160 => ?_)
          refine wp_seq_k (fun K161 hK161 => ?_)
          refine e_region (fun R hR => ?_)
          refine e_op H rfl rfl (by decide) (x_move H rfl rfl) ?_
          clear H a; intro a H
          refine e_op H rfl rfl (by decide) (x_move H rfl rfl) ?_
          clear H a; intro a H
          refine e_op H rfl rfl (by decide) (x_builtin H rfl rfl (fun cs => len_sl under118)) ?_
          clear H a; intro a H
          refine e_op H rfl rfl (by decide) (x_binI H rfl rfl rfl (b_lss (b := true) (dc_t (by omega)))) ?_
          clear H a; intro a H
          refine e_op H rfl rfl (by decide) (x_move H rfl rfl) ?_
          clear H a; intro a H
          refine e_opg H (wanted_true H rfl rfl rfl rfl) rfl (by decide) (x_move H rfl rfl) ?_
          clear H a; intro a H
          refine e_opg H (wanted_true H rfl rfl rfl rfl) rfl (by decide) (x_binI H rfl rfl rfl (b_lss (b := false) (dc_f (by omega)))) ?_
          clear H a; intro a H
          refine e_op H rfl rfl (by decide) (x_pickT H rfl rfl rfl) ?_
          clear H a; intro a H
          refine e_nil (hR.out _ _ ?_)
          clear hR R
          refine hK161 _ _ ?_
          clear hK161 K161
          refine c_false H rfl ?_
          refine wp_exit ?_
          refine t_exit ?_
          refine t_exit ?_
          refine b_hit ?_
          clear hK160 K160
          refine hK14 _ _ ?_
          clear hK14 K14
          refine wp_seq_k (fun K162 hK162 => ?_)
          refine e_region (fun R hR => ?_)
          refine e_op H rfl rfl (by decide) (x_assign H rfl rfl) ?_
          clear H a; intro a H
          refine e_nil (hR.out _ _ ?_)
          clear hR R
          refine hK162 _ _ ?_
          clear hK162 K162
          refine wp_ret ?_
          exact ret1 H rfl rfl ⟨rfl, E⟩
        · skip
          skip
          refine wp_seq_k (fun K163 hK163 => ?_)
          refine wp_seq_k (fun K164 hK164 => ?_)
          refine e_region (fun R hR => ?_)
          refine e_op H rfl rfl (by decide) (x_move H rfl rfl) ?_
          clear H a; intro a H
          refine e_op H rfl rfl (by decide) (x_move H rfl rfl) ?_
          clear H a; intro a H
          refine e_op H rfl rfl (by decide) (x_builtin H rfl rfl (fun cs => len_sl under118)) ?_
          clear H a; intro a H
          refine e_op H rfl rfl (by decide) (x_binI H rfl rfl rfl (b_lss (b := false) (dc_f (by omega)))) ?_
          clear H a; intro a H
          refine e_op H rfl rfl (by decide) (x_move H rfl rfl) ?_
          clear H a; intro a H
          refine e_skip H (wanted_false H rfl rfl rfl rfl) rfl (by decide) ?_
          clear H a; intro a H
          refine e_skip H (wanted_false H rfl rfl rfl rfl) rfl (by decide) ?_
          clear H a; intro a H
          refine e_op H rfl rfl (by decide) (x_pickF H rfl rfl rfl) ?_
          clear H a; intro a H
          refine e_nil (hR.out _ _ ?_)
          clear hR R
          refine hK164 _ _ ?_
          clear hK164 K164
          refine c_false H rfl ?_
          refine wp_exit ?_
          refine t_exit ?_
          refine t_exit ?_
          refine b_hit ?_
          clear hK163 K163
          refine hK14 _ _ ?_
          clear hK14 K14
          refine wp_seq_k (fun K165 hK165 => ?_)
          refine e_region (fun R hR => ?_)
          refine e_op H rfl rfl (by decide) (x_assign H rfl rfl) ?_
          clear H a; intro a H
          refine e_nil (hR.out _ _ ?_)
          clear hR R
          refine hK165 _ _ ?_
          clear hK165 K165
          refine wp_ret ?_
          exact ret1 H rfl rfl ⟨rfl, E⟩
end Go.Proofs.Ytknllmcpogoeoaa
