/- The chapter's example (awake), walked. -/
import Derived.Test.YtknllmcpogoeoaaT15
namespace Go.Proofs.Ytknllmcpogoeoaa
open Go.RowKit
set_option linter.unusedVariables false
set_option linter.unusedSimpArgs false
set_option maxRecDepth 100000
/-- packets that are out -/
structure Outs (w : World) (B : Nat) (vr v : Value) (xs : List Value) (ls : List (List UInt8)) : Prop where
  row : Rw w B 22 v xs
  els : Els w B xs ls
  sep : ∀ k, vr.ownBlock = some k → ∀ u ∈ xs, u.ownBlock ≠ some k
section
variable {w w' : World} {B B' gr : Nat} {vr v : Value} {xs : List Value} {ls : List (List UInt8)} {r : Rcv}
theorem Outs.ext (h : Outs w B vr v xs ls) (E : Ext w w') : Outs w' B vr v xs ls := ⟨h.row.ext E, h.els.ext E, h.sep⟩
theorem Els.blks (h : Els w B xs ls) : ∀ u ∈ xs, ∀ k, u.ownBlock = some k → B ≤ k ∧ k < w.heap.size := by
  intro u hu k hk
  obtain ⟨i, hi⟩ := List.getElem?_of_mem hu
  have hlt3 := (List.getElem?_eq_some_iff.1 hi).1
  have hlt2 : i < ls.length := by rw [← h.len]; exact hlt3
  obtain ⟨a, c, h1, h2⟩ := h.at_ i ls[i] (List.getElem?_eq_getElem hlt2)
  rw [hi] at h1
  simp only [Option.some.injEq] at h1
  rw [h1] at hk
  have := h2.rw_.blk k hk
  exact ⟨this.1, this.2.1⟩
theorem Rv.own_lt {g : Nat} (h : Rv w B g vr r) : ∀ k, vr.ownBlock = some k → k < w.heap.size := by
  intro k hk
  obtain ⟨a, c, e, ho⟩ := h.data
  rw [e] at hk
  exact (ho.rw_.blk k hk).2.1
/-- fresh packets -/
theorem Outs.of {w0 : World} {g : Nat} (R : Rv w0 B' g vr r) (h1 : Rw w w0.heap.size 22 v xs) (h2 : Els w w0.heap.size xs ls) (hB : B ≤ w0.heap.size) : Outs w B vr v xs ls :=
  ⟨h1.mono hB, h2.mono hB, fun k hk u hu e => by have := R.own_lt k hk; have := (h2.blks u hu k e).1; omega⟩
/-- they stay when one of them, or another, comes in -/
theorem Outs.rcv (h : Outs w B vr v xs ls) (R : Rv w B' gr vr r) (F : Frm (gr :: vr.ownBlock.toList) w w') {vr' : Value} (hb : vr'.ownBlock = vr.ownBlock ∨ ∃ k, vr'.ownBlock = some k ∧ w.heap.size ≤ k) : Outs w' B vr' v xs ls := by
  obtain ⟨a, c, e, ho⟩ := R.data
  refine ⟨h.row.ty F ((Ty.blk R.blk (by decide)).cons (by rw [e]; exact Ty.row ho.rw_ (by decide))), h.els.off F (fun u hu k hk hx => ?_), fun k hk u hu => ?_⟩
  · rcases List.mem_cons.1 hx with rfl | hx
    · obtain ⟨i, hi⟩ := List.getElem?_of_mem hu
      have hlt3 := (List.getElem?_eq_some_iff.1 hi).1
      have hlt2 : i < ls.length := by rw [← h.els.len]; exact hlt3
      obtain ⟨a, c, h1, h2⟩ := h.els.at_ i ls[i] (List.getElem?_eq_getElem hlt2)
      rw [hi] at h1
      simp only [Option.some.injEq] at h1
      rw [h1] at hk
      exact h2.rw_.nt R.blk (by decide) hk
    · rw [Option.mem_toList] at hx
      exact h.sep k hx u hu hk
  · rcases hb with hb | ⟨k2, hb, hlt⟩
    · exact h.sep k (by rw [← hb]; exact hk) u hu
    · rw [hb] at hk
      cases hk
      intro e2
      have := (h.els.blks u hu k e2).2
      omega
theorem Outs.snd (h : Outs w B vr v xs ls) {gs : Nat} {vs : Value} {s : Snd} (S : Sn w B' gs vs s) (F : Frm [gs] w w') : Outs w' B vr v xs ls :=
  ⟨h.row.ty F (Ty.blk S.blk (by decide)), h.els.ty F (Ty.blk S.blk (by decide)), h.sep⟩
end
/-- a packet of the play's own comes in -/
theorem in_play {w : World} {B gw gs gr : Nat} {V : Wv} {p : Wp} {id : Nat} {file : List UInt8} (D : Wd w B gw gs gr V p) (K : p.r.of id file) (hid : id < 4294967296) (hf : file.length ≤ 65535) {i : Nat} (hi : i < chunksT file.length) {ad : Option Addr} {n c : Nat}
    (hb : Bs w ad n (pkt id file i)) (hz : ad = none → c = 0) (hnc : n ≤ c) :
    Calls Try.prog 56 #[.pointer (some ⟨gr, 0, none⟩), .slice ad n c] w fun e w' => e = .returned (.int .i64 0) ∧ ∃ v r', Wd w' B gw gs gr { V with vr := v } { p with r := r' } ∧ r'.of id file ∧ (∀ k, gb r'.has k = (gb p.r.has k || decide (k = i))) ∧
      Frm (gr :: V.vr.ownBlock.toList) w w' ∧ (v.ownBlock = V.vr.ownBlock ∨ ∃ k, v.ownBlock = some k ∧ w.heap.size ≤ k) := by
  have hpl := pkt_len id file i hid hf (Nat.lt_of_lt_of_le hi (chunks_le hf))
  have hl := hb.leng
  refine (in_any B gr V.vr p.r ad n c _ w D.rv hb hz hnc (by omega)).mono ?_
  rintro e w' ⟨rfl, v, R, F, hown, _⟩
  obtain ⟨h1, h2, h3, h4⟩ := K.in_ i hid hf hi
  rw [h1]
  refine ⟨rfl, v, _, ?_, h3, h4, F, hown⟩
  rw [h2] at R
  exact D.rcv F R hown
theorem Outs.elem {w : World} {B n c : Nat} {vr : Value} {a : Option Addr} {xs : List Value} {ls : List (List UInt8)} (h : Outs w B vr (.slice a n c) xs ls) (i : Nat) (l : List UInt8) (hl : ls[i]? = some l) :
    ∃ g off ax cx, a = some ⟨g, off, none⟩ ∧ i < n ∧ w.cell? ⟨g, off + i, none⟩ = some (.slice ax l.length cx) ∧ Ow w B ax l.length cx l ∧ xs[i]? = some (.slice ax l.length cx) := by
  obtain ⟨ax, cx, h1, h2⟩ := h.els.at_ i l hl
  have hlt := (List.getElem?_eq_some_iff.1 h1).1
  have hn := h.row.lenS
  obtain ⟨g, off, c', e⟩ := h.row.pos (by omega)
  simp only [Value.slice.injEq] at e
  obtain ⟨rfl, _, rfl⟩ := e
  exact ⟨g, off, ax, cx, rfl, by omega, h.row.cells i _ h1, h2, h1⟩
theorem unm_no (n : Nat) : unm (gb noMarks) n = unm (fun _ => false) n := unm_congr fun k _ => gb_no k
theorem own_ge {w : World} {B gw gs gr : Nat} {V : Wv} {p : Wp} (D : Wd w B gw gs gr V p) : ∀ x ∈ gr :: V.vr.ownBlock.toList, B ≤ x := by
  intro x hx
  rcases List.mem_cons.1 hx with rfl | hx
  · exact D.rv.low
  · rw [Option.mem_toList] at hx
    obtain ⟨_, _, e2, ho2⟩ := D.rv.data
    rw [e2] at hx
    exact (ho2.rw_.blk x hx).1
theorem awake_any (w0 : World) : Calls Try.prog 51 #[] w0 fun e w' => e = .returned (.bool true) ∧ Ext w0 w' := by
  have hpre : ∀ {r : Rcv}, r.of 7 (List.replicate 130 0 : List UInt8) → (∀ k, gb r.has k = (gb noMarks k || decide (k = 0) || decide (k = 2))) → r.prefix_.length = 64 := by
    intro r K hg
    have hf : front (gb r.has) (chunksT ((List.replicate 130 0 : List UInt8)).length) = 1 := by
      refine front_eq (by decide) (fun k hk => ?_) (.inr (by rw [hg, gb_no]; decide))
      obtain rfl : k = 0 := by omega
      rw [hg]; simp
    rw [K.prefix_, hf, List.length_take, List.length_replicate]
    rfl
  have hsa : ∀ (r : Rcv), r.of 7 (List.replicate 130 0 : List UInt8) → ((⟨7, (List.replicate 130 0 : List UInt8), noMarks⟩ : Snd).ack (ackP r.id r.has)).1 = 0 ∧ ((⟨7, (List.replicate 130 0 : List UInt8), noMarks⟩ : Snd).ack (ackP r.id r.has)).2.id = 7 ∧ ((⟨7, (List.replicate 130 0 : List UInt8), noMarks⟩ : Snd).ack (ackP r.id r.has)).2.file = (List.replicate 130 0 : List UInt8) ∧ ((⟨7, (List.replicate 130 0 : List UInt8), noMarks⟩ : Snd).ack (ackP r.id r.has)).2.acked.length = 1024 ∧ ∀ k, gb ((⟨7, (List.replicate 130 0 : List UInt8), noMarks⟩ : Snd).ack (ackP r.id r.has)).2.acked k = (gb noMarks k || gb r.has k) := by
    intro r K
    exact (Snd.ack_put ⟨7, (List.replicate 130 0 : List UInt8), noMarks⟩ r.id r.has (by rw [K.id_]; omega) K.size (List.length_replicate ..)).2.2 K.id_ K.beyond
  have hun : ∀ (r : Rcv) {a : List Bool}, (∀ k, gb r.has k = (gb noMarks k || decide (k = 0) || decide (k = 2))) → (∀ k, gb a k = (gb noMarks k || gb r.has k)) → unm (gb a) (chunksT ((List.replicate 130 0 : List UInt8)).length) = [1] := by
    intro r a h1 h2
    have : unm (gb a) (chunksT ((List.replicate 130 0 : List UInt8)).length) = unm (fun k => decide (k = 0) || decide (k = 2)) (chunksT ((List.replicate 130 0 : List UInt8)).length) := unm_congr fun k _ => by rw [h2, h1, gb_no]; simp
    rw [this, List.length_replicate]
    decide
  have hst : ∀ (r : Rcv), r.of 7 (List.replicate 130 0 : List UInt8) → r.in_ (pkt 8 [] 0) = (13, r) := by
    intro r K
    unfold Rcv.in_
    rw [rdPk_pkt 8 [] 0 (by omega) (by simp) (by decide), if_neg (by simp), if_pos (by rw [K.id_]; decide)]
  refine calls_has (args := []) Try.func51 rfl Try.ntmps51 (Nat.le_of_ble_eq_true rfl) (fun a H => ?_)
  simp only [argl, Nat.reduceAdd] at H
  refine wp_seq_k (fun K1 hK1 => ?_)
  refine e_region (fun R hR => ?_)
  refine e_op H rfl rfl (by decide) (x_assign H rfl rfl) ?_
  clear H a; intro a H
  refine e_nil (hR.out _ _ ?_)
  clear hR R
  refine hK1 _ _ ?_
  clear hK1 K1
  refine wp_seq_k (fun K2 hK2 => ?_)
  refine e_region (fun R hR => ?_)
  refine e_op H rfl rfl (by decide) (x_makeSlice H rfl rfl rfl (mk_u8 (n := 130) (c := 130) rfl rfl (by omega) (by omega))) ?_
  clear H a; intro a H
  have O0 := Ow.fresh w0 w0.heap.size 130 (Nat.le_refl _) (by omega)
  have E0 := (Ext.refl w0).al (.cells (u8s (List.replicate 130 0)).toArray 5)
  obtain ⟨g0, hg0⟩ : ∃ g, g = w0.heap.size := ⟨_, rfl⟩
  rw [← hg0] at H
  have O0' : Ow (w0.alloc (.cells (u8s (List.replicate 130 0)).toArray 5)) w0.heap.size (some ⟨g0, 0, none⟩) 130 130 (List.replicate 130 0 : List UInt8) := by rw [hg0]; exact O0
  generalize w0.alloc (.cells (u8s (List.replicate 130 0)).toArray 5) = w1 at *
  refine e_callq H rfl rfl (by decide) rfl rfl (Try.call97 _) (begin_any w0.heap.size 7 (some ⟨g0, 0, none⟩) 130 130 (List.replicate 130 0 : List UInt8) w1 O0' E0.sz (by omega) (by omega)) ?_
  clear H a
  rintro e w2 ⟨gw, gs, gr, V, rfl, D0, hw1, hw2, hw3, hvl, E1⟩
  refine ⟨_, rfl, fun a H => ?_⟩
  have E := E0.tr E1
  refine e_op H rfl rfl (by decide) (x_assign H rfl rfl) ?_
  clear H a; intro a H
  refine e_nil (hR.out _ _ ?_)
  clear hR R
  refine hK2 _ _ ?_
  clear hK2 K2
  refine wp_seq_k (fun K3 hK3 => ?_)
  refine wp_seq_k (fun K4 hK4 => ?_)
  refine e_region (fun R hR => ?_)
  refine e_op H rfl rfl (by decide) (x_move H rfl rfl) ?_
  clear H a; intro a H
  refine e_op H rfl rfl (by decide) (x_bin H rfl rfl rfl (by rw [eqGuard_at_pointer]; rfl) (b_pnil (c := false) Try.underlying149 rfl)) ?_
  clear H a; intro a H
  refine e_nil (hR.out _ _ ?_)
  clear hR R
  refine hK4 _ _ ?_
  clear hK4 K4
  refine c_false H rfl ?_
  refine wp_skip ?_
  refine hK3 _ _ ?_
  clear hK3 K3
  refine wp_seq_k (fun K5 hK5 => ?_)
  refine e_region (fun R hR => ?_)
  refine e_op H rfl rfl (by decide) (x_move H rfl rfl) ?_
  clear H a; intro a H
  refine e_op H rfl rfl (by decide) (x_nilCheck H rfl rfl) ?_
  clear H a; intro a H
  refine e_op H rfl rfl (by decide) (x_fieldAddr H rfl rfl (fa158_0 _ _)) ?_
  clear H a; intro a H
  refine e_op H rfl rfl (by decide) (x_load H rfl rfl (l_cell Try.isAgg64 (D0.blk.at_ (i := 0) rfl))) ?_
  clear H a; intro a H
  refine e_callq H rfl rfl (by decide) rfl rfl (Try.call52 _) (out_any w0.heap.size gs V.vs (p0 7 (List.replicate 130 0 : List UInt8)).s w2 D0.sn) ?_
  clear H a
  rintro e w3 ⟨vo, xs, rfl, RX, EX, Ex⟩
  have OO := Outs.of D0.rv RX EX E.sz
  replace D0 := D0.ext Ex
  replace E := E.tr Ex
  obtain ⟨oa, oc, rfl, _⟩ := RX.shape
  clear RX EX
  have hu0 : (unm (gb (p0 7 (List.replicate 130 0 : List UInt8)).s.acked) (chunksT (p0 7 (List.replicate 130 0 : List UInt8)).s.file.length)).take 8 = [0, 1, 2] := by rw [show (p0 7 (List.replicate 130 0 : List UInt8)).s.acked = noMarks from rfl, unm_no]; decide
  rw [hu0] at OO
  have hx3 : xs.length = 3 := by rw [OO.els.len]; rfl
  obtain ⟨go, oo, a0, c0, hoa, _, _, _, e0⟩ := OO.elem 0 _ rfl
  obtain ⟨_, _, a2, c2, _, _, _, _, e2⟩ := OO.elem 2 _ rfl
  subst hoa
  have hO0 : ∀ {w : World} {vr : Value}, Outs w w0.heap.size vr (.slice (some ⟨go, oo, none⟩) xs.length oc) xs ([0, 1, 2].map (pkt 7 (List.replicate 130 0 : List UInt8))) → Ow w w0.heap.size a0 (pkt 7 (List.replicate 130 0 : List UInt8) 0).length c0 (pkt 7 (List.replicate 130 0 : List UInt8) 0) := fun h => by
    obtain ⟨a, c, h1, h2⟩ := h.els.at_ 0 _ rfl
    rw [e0] at h1
    simp only [Option.some.injEq, Value.slice.injEq] at h1
    obtain ⟨rfl, _, rfl⟩ := h1
    exact h2
  have hO2 : ∀ {w : World} {vr : Value}, Outs w w0.heap.size vr (.slice (some ⟨go, oo, none⟩) xs.length oc) xs ([0, 1, 2].map (pkt 7 (List.replicate 130 0 : List UInt8))) → Ow w w0.heap.size a2 (pkt 7 (List.replicate 130 0 : List UInt8) 2).length c2 (pkt 7 (List.replicate 130 0 : List UInt8) 2) := fun h => by
    obtain ⟨a, c, h1, h2⟩ := h.els.at_ 2 _ rfl
    rw [e2] at h1
    simp only [Option.some.injEq, Value.slice.injEq] at h1
    obtain ⟨rfl, _, rfl⟩ := h1
    exact h2
  refine ⟨_, rfl, fun a H => ?_⟩
  refine e_op H rfl rfl (by decide) (x_assign H rfl rfl) ?_
  clear H a; intro a H
  refine e_nil (hR.out _ _ ?_)
  clear hR R
  refine hK5 _ _ ?_
  clear hK5 K5
  refine wp_seq_k (fun K6 hK6 => ?_)
  refine wp_seq_k (fun K7 hK7 => ?_)
  obtain ⟨wd, hwd⟩ : ∃ wx, wx = w3.drew := ⟨_, rfl⟩
  have Ewd : Ext w3 wd := by rw [hwd]; exact (Ext.refl _).dr
  replace D0 := D0.ext Ewd
  replace OO := OO.ext Ewd
  replace E := E.tr Ewd
  have HS : Blk wd gw 158 (wCells gs gr V) ∧ Rw wd w0.heap.size 22 (.slice (some ⟨go, oo, none⟩) xs.length oc) xs := ⟨D0.blk, OO.row⟩
  refine g_start (fun w' => Blk w' gw 158 (wCells gs gr V) ∧ Rw w' w0.heap.size 22 (.slice (some ⟨go, oo, none⟩) xs.length oc) xs) (by kernel_rfl) (fun R hR => ?_)
  rw [← hwd]
  refine g_take 0 H rfl (wanted_none rfl) rfl (by decide) (by kernel_rfl) (by kernel_rfl) (by kernel_rfl) HS (fun w' hSw => (x_move H rfl rfl)) ?_
  clear H a; intro a H
  refine g_take 1 H rfl (wanted_none rfl) rfl (by decide) (by kernel_rfl) (by kernel_rfl) (by kernel_rfl) HS (fun w' hSw => (x_builtin H rfl rfl (fun cs => len_sl Try.underlying37))) ?_
  clear H a; intro a H
  refine g_take 2 H rfl (wanted_none rfl) rfl (by decide) (by kernel_rfl) (by kernel_rfl) (by kernel_rfl) HS (fun w' hSw => (x_binI H rfl rfl rfl (b_neq (b := false) (bne_f (by rw [hx3]; rfl))))) ?_
  clear H a; intro a H
  refine g_take 3 H rfl (wanted_none rfl) rfl (by decide) (by kernel_rfl) (by kernel_rfl) (by kernel_rfl) HS (fun w' hSw => (x_move H rfl rfl)) ?_
  clear H a; intro a H
  refine g_take 4 H rfl (wanted_true H rfl rfl rfl rfl) rfl (by decide) (by kernel_rfl) (by kernel_rfl) (by kernel_rfl) HS (fun w' hSw => (x_move H rfl rfl)) ?_
  clear H a; intro a H
  refine g_take 5 H rfl (wanted_true H rfl rfl rfl rfl) rfl (by decide) (by kernel_rfl) (by kernel_rfl) (by kernel_rfl) HS (fun w' hSw => (x_nilCheck H rfl rfl)) ?_
  clear H a; intro a H
  refine g_take 6 H rfl (wanted_true H rfl rfl rfl rfl) rfl (by decide) (by kernel_rfl) (by kernel_rfl) (by kernel_rfl) HS (fun w' hSw => (x_fieldAddr H rfl rfl (fa158_1 _ _))) ?_
  clear H a; intro a H
  refine g_take 7 H rfl (wanted_true H rfl rfl rfl rfl) rfl (by decide) (by kernel_rfl) (by kernel_rfl) (by kernel_rfl) HS (fun w' hSw => (x_load H rfl rfl (l_cell Try.isAgg65 (hSw.1.at_ (i := 1) rfl)))) ?_
  clear H a; intro a H
  refine g_take 8 H rfl (wanted_true H rfl rfl rfl rfl) rfl (by decide) (by kernel_rfl) (by kernel_rfl) (by kernel_rfl) HS (fun w' hSw => (x_move H rfl rfl)) ?_
  clear H a; intro a H
  refine g_take 9 H rfl (wanted_true H rfl rfl rfl rfl) rfl (by decide) (by kernel_rfl) (by kernel_rfl) (by kernel_rfl) HS (fun w' hSw => (x_indexAddr H rfl rfl rfl (i_sl (m := 0) Try.underlying37 Try.sizeOf22 rfl (by omega)))) ?_
  clear H a; intro a H
  refine g_take 10 H rfl (wanted_true H rfl rfl rfl rfl) rfl (by decide) (by kernel_rfl) (by kernel_rfl) (by kernel_rfl) HS (fun w' hSw => (x_load H rfl rfl (l_cell Try.isAgg22 (hSw.2.cells 0 _ e0)))) ?_
  clear H a; intro a H
  refine g_call 11 H rfl (by kernel_rfl) (wanted_true H rfl rfl rfl rfl) rfl (by decide) rfl rfl (Try.call56 _) (in_play D0 (Rcv.of_new 7 (List.replicate 130 0 : List UInt8)) (by omega) (by rw [List.length_replicate]; omega) (i := 0) (by rw [List.length_replicate]; decide) (hO0 OO).bs (ow_cap (hO0 OO)) (ow_le (hO0 OO))) ?_
  clear H a
  rintro e wn ⟨rfl, v1, r1, D1, K1, G1, F1, hw1⟩
  replace OO := OO.rcv D0.rv F1 hw1
  have HSn : Blk wn gw 158 (wCells gs gr V) ∧ Rw wn w0.heap.size 22 (.slice (some ⟨go, oo, none⟩) xs.length oc) xs := ⟨D1.blk, OO.row⟩
  replace E := F1.ext E (own_ge D0)
  refine ⟨_, rfl, HSn, fun a H => ?_⟩
  replace HS := HSn
  clear HSn
  refine g_take 12 H rfl (wanted_true H rfl rfl rfl rfl) rfl (by decide) (by kernel_rfl) (by kernel_rfl) (by kernel_rfl) HS (fun w' hSw => (x_binI H rfl rfl rfl (b_neq (b := false) (rfl)))) ?_
  clear H a; intro a H
  refine g_take 13 H rfl (wanted_none rfl) rfl (by decide) (by kernel_rfl) (by kernel_rfl) (by kernel_rfl) HS (fun w' hSw => (x_pickF H rfl rfl rfl)) ?_
  clear H a; intro a H
  refine g_take 14 H rfl (wanted_none rfl) rfl (by decide) (by kernel_rfl) (by kernel_rfl) (by kernel_rfl) HS (fun w' hSw => (x_move H rfl rfl)) ?_
  clear H a; intro a H
  refine g_take 15 H rfl (wanted_true H rfl rfl rfl rfl) rfl (by decide) (by kernel_rfl) (by kernel_rfl) (by kernel_rfl) HS (fun w' hSw => (x_move H rfl rfl)) ?_
  clear H a; intro a H
  refine g_take 16 H rfl (wanted_true H rfl rfl rfl rfl) rfl (by decide) (by kernel_rfl) (by kernel_rfl) (by kernel_rfl) HS (fun w' hSw => (x_nilCheck H rfl rfl)) ?_
  clear H a; intro a H
  refine g_take 17 H rfl (wanted_true H rfl rfl rfl rfl) rfl (by decide) (by kernel_rfl) (by kernel_rfl) (by kernel_rfl) HS (fun w' hSw => (x_fieldAddr H rfl rfl (fa158_1 _ _))) ?_
  clear H a; intro a H
  refine g_take 18 H rfl (wanted_true H rfl rfl rfl rfl) rfl (by decide) (by kernel_rfl) (by kernel_rfl) (by kernel_rfl) HS (fun w' hSw => (x_load H rfl rfl (l_cell Try.isAgg65 (hSw.1.at_ (i := 1) rfl)))) ?_
  clear H a; intro a H
  refine g_take 19 H rfl (wanted_true H rfl rfl rfl rfl) rfl (by decide) (by kernel_rfl) (by kernel_rfl) (by kernel_rfl) HS (fun w' hSw => (x_move H rfl rfl)) ?_
  clear H a; intro a H
  refine g_take 20 H rfl (wanted_true H rfl rfl rfl rfl) rfl (by decide) (by kernel_rfl) (by kernel_rfl) (by kernel_rfl) HS (fun w' hSw => (x_indexAddr H rfl rfl rfl (i_sl (m := 2) Try.underlying37 Try.sizeOf22 rfl (by omega)))) ?_
  clear H a; intro a H
  refine g_take 21 H rfl (wanted_true H rfl rfl rfl rfl) rfl (by decide) (by kernel_rfl) (by kernel_rfl) (by kernel_rfl) HS (fun w' hSw => (x_load H rfl rfl (l_cell Try.isAgg22 (hSw.2.cells 2 _ e2)))) ?_
  clear H a; intro a H
  refine g_call 22 H rfl (by kernel_rfl) (wanted_true H rfl rfl rfl rfl) rfl (by decide) rfl rfl (Try.call56 _) (in_play D1 K1 (by omega) (by rw [List.length_replicate]; omega) (i := 2) (by rw [List.length_replicate]; decide) (hO2 OO).bs (ow_cap (hO2 OO)) (ow_le (hO2 OO))) ?_
  clear H a
  rintro e wn ⟨rfl, v2, r2, D2, K2, G2, F2, hw2⟩
  replace OO := OO.rcv D1.rv F2 hw2
  have HSn : Blk wn gw 158 (wCells gs gr V) ∧ Rw wn w0.heap.size 22 (.slice (some ⟨go, oo, none⟩) xs.length oc) xs := ⟨D2.blk, OO.row⟩
  replace E := F2.ext E (own_ge D1)
  refine ⟨_, rfl, HSn, fun a H => ?_⟩
  replace HS := HSn
  clear HSn
  have hG : ∀ k, gb r2.has k = (gb noMarks k || decide (k = 0) || decide (k = 2)) := fun k => (G2 k).trans (congrArg (fun b => b || decide (k = 2)) (G1 k))
  refine g_take 23 H rfl (wanted_true H rfl rfl rfl rfl) rfl (by decide) (by kernel_rfl) (by kernel_rfl) (by kernel_rfl) HS (fun w' hSw => (x_binI H rfl rfl rfl (b_neq (b := false) (rfl)))) ?_
  clear H a; intro a H
  refine g_take 24 H rfl (wanted_none rfl) rfl (by decide) (by kernel_rfl) (by kernel_rfl) (by kernel_rfl) HS (fun w' hSw => (x_pickF H rfl rfl rfl)) ?_
  clear H a; intro a H
  refine g_take 25 H rfl (wanted_none rfl) rfl (by decide) (by kernel_rfl) (by kernel_rfl) (by kernel_rfl) HS (fun w' hSw => (x_move H rfl rfl)) ?_
  clear H a; intro a H
  refine g_take 26 H rfl (wanted_true H rfl rfl rfl rfl) rfl (by decide) (by kernel_rfl) (by kernel_rfl) (by kernel_rfl) HS (fun w' hSw => (x_move H rfl rfl)) ?_
  clear H a; intro a H
  refine g_take 27 H rfl (wanted_true H rfl rfl rfl rfl) rfl (by decide) (by kernel_rfl) (by kernel_rfl) (by kernel_rfl) HS (fun w' hSw => (x_nilCheck H rfl rfl)) ?_
  clear H a; intro a H
  refine g_take 28 H rfl (wanted_true H rfl rfl rfl rfl) rfl (by decide) (by kernel_rfl) (by kernel_rfl) (by kernel_rfl) HS (fun w' hSw => (x_fieldAddr H rfl rfl (fa158_1 _ _))) ?_
  clear H a; intro a H
  refine g_take 29 H rfl (wanted_true H rfl rfl rfl rfl) rfl (by decide) (by kernel_rfl) (by kernel_rfl) (by kernel_rfl) HS (fun w' hSw => (x_load H rfl rfl (l_cell Try.isAgg65 (hSw.1.at_ (i := 1) rfl)))) ?_
  clear H a; intro a H
  refine g_call 30 H rfl (by kernel_rfl) (wanted_true H rfl rfl rfl rfl) rfl (by decide) rfl rfl (Try.call58 _) (prefix_any w0.heap.size gr v2 r2 _ D2.rv) ?_
  clear H a
  rintro e wn ⟨pa, pc, rfl, OP, Ep⟩
  replace D2 := D2.ext Ep
  replace OO := OO.ext Ep
  have HSn : Blk wn gw 158 (wCells gs gr V) ∧ Rw wn w0.heap.size 22 (.slice (some ⟨go, oo, none⟩) xs.length oc) xs := ⟨D2.blk, OO.row⟩
  replace E := E.tr Ep
  refine ⟨_, rfl, HSn, fun a H => ?_⟩
  replace HS := HSn
  clear HSn
  rw [hpre K2 hG] at H
  refine g_take 31 H rfl (wanted_true H rfl rfl rfl rfl) rfl (by decide) (by kernel_rfl) (by kernel_rfl) (by kernel_rfl) HS (fun w' hSw => (x_builtin H rfl rfl (fun cs => len_sl Try.underlying22))) ?_
  clear H a; intro a H
  refine g_take 32 H rfl (wanted_true H rfl rfl rfl rfl) rfl (by decide) (by kernel_rfl) (by kernel_rfl) (by kernel_rfl) HS (fun w' hSw => (x_binI H rfl rfl rfl (b_neq (b := false) (rfl)))) ?_
  clear H a; intro a H
  refine g_take 33 H rfl (wanted_none rfl) rfl (by decide) (by kernel_rfl) (by kernel_rfl) (by kernel_rfl) HS (fun w' hSw => (x_pickF H rfl rfl rfl)) ?_
  clear H a; intro a H
  refine g_take 34 H rfl (wanted_none rfl) rfl (by decide) (by kernel_rfl) (by kernel_rfl) (by kernel_rfl) HS (fun w' hSw => (x_move H rfl rfl)) ?_
  clear H a; intro a H
  refine g_take 35 H rfl (wanted_true H rfl rfl rfl rfl) rfl (by decide) (by kernel_rfl) (by kernel_rfl) (by kernel_rfl) HS (fun w' hSw => (x_move H rfl rfl)) ?_
  clear H a; intro a H
  refine g_take 36 H rfl (wanted_true H rfl rfl rfl rfl) rfl (by decide) (by kernel_rfl) (by kernel_rfl) (by kernel_rfl) HS (fun w' hSw => (x_nilCheck H rfl rfl)) ?_
  clear H a; intro a H
  refine g_take 37 H rfl (wanted_true H rfl rfl rfl rfl) rfl (by decide) (by kernel_rfl) (by kernel_rfl) (by kernel_rfl) HS (fun w' hSw => (x_fieldAddr H rfl rfl (fa158_0 _ _))) ?_
  clear H a; intro a H
  refine g_take 38 H rfl (wanted_true H rfl rfl rfl rfl) rfl (by decide) (by kernel_rfl) (by kernel_rfl) (by kernel_rfl) HS (fun w' hSw => (x_load H rfl rfl (l_cell Try.isAgg64 (hSw.1.at_ (i := 0) rfl)))) ?_
  clear H a; intro a H
  refine g_take 39 H rfl (wanted_true H rfl rfl rfl rfl) rfl (by decide) (by kernel_rfl) (by kernel_rfl) (by kernel_rfl) HS (fun w' hSw => (x_move H rfl rfl)) ?_
  clear H a; intro a H
  refine g_take 40 H rfl (wanted_true H rfl rfl rfl rfl) rfl (by decide) (by kernel_rfl) (by kernel_rfl) (by kernel_rfl) HS (fun w' hSw => (x_nilCheck H rfl rfl)) ?_
  clear H a; intro a H
  refine g_take 41 H rfl (wanted_true H rfl rfl rfl rfl) rfl (by decide) (by kernel_rfl) (by kernel_rfl) (by kernel_rfl) HS (fun w' hSw => (x_fieldAddr H rfl rfl (fa158_1 _ _))) ?_
  clear H a; intro a H
  refine g_take 42 H rfl (wanted_true H rfl rfl rfl rfl) rfl (by decide) (by kernel_rfl) (by kernel_rfl) (by kernel_rfl) HS (fun w' hSw => (x_load H rfl rfl (l_cell Try.isAgg65 (hSw.1.at_ (i := 1) rfl)))) ?_
  clear H a; intro a H
  refine g_call 43 H rfl (by kernel_rfl) (wanted_true H rfl rfl rfl rfl) rfl (by decide) rfl rfl (Try.call57 _) (ack_any w0.heap.size gr v2 r2 _ D2.rv) ?_
  clear H a
  rintro e wn ⟨qa, qc, rfl, OA, Ea⟩
  replace D2 := D2.ext Ea
  replace OO := OO.ext Ea
  have HSn : Blk wn gw 158 (wCells gs gr V) ∧ Rw wn w0.heap.size 22 (.slice (some ⟨go, oo, none⟩) xs.length oc) xs := ⟨D2.blk, OO.row⟩
  replace E := E.tr Ea
  refine ⟨_, rfl, HSn, fun a H => ?_⟩
  replace HS := HSn
  clear HSn
  refine g_call 44 H rfl (by kernel_rfl) (wanted_true H rfl rfl rfl rfl) rfl (by decide) rfl rfl (Try.call53 _) (sack_any w0.heap.size gs V.vs _ qa _ qc (ackP r2.id r2.has) _ D2.sn OA.bs (ow_cap OA) (ow_le OA) (by have := ackP_len r2.id r2.has (by rw [K2.id_]; omega); unfold ackP; rw [tseal_len]; omega)) ?_
  clear H a
  rintro e wn ⟨rfl, Sa, Fa, _⟩
  obtain ⟨q1, q2, q3, q4, q5⟩ := hsa r2 K2
  obtain ⟨s3, S3, q2, q3, q5⟩ : ∃ s3, Sn wn w0.heap.size gs V.vs s3 ∧ s3.id = 7 ∧ s3.file = (List.replicate 130 0 : List UInt8) ∧ ∀ k, gb s3.acked k = (gb noMarks k || gb r2.has k) := ⟨_, Sa, q2, q3, q5⟩
  have hu1 : unm (gb s3.acked) (chunksT s3.file.length) = [1] := by rw [q3]; exact hun r2 hG q5
  have D3 := D2.snd Fa S3 q2 q3
  replace OO := OO.snd D2.sn Fa
  have HSn : Blk wn gw 158 (wCells gs gr V) ∧ Rw wn w0.heap.size 22 (.slice (some ⟨go, oo, none⟩) xs.length oc) xs := ⟨D3.blk, OO.row⟩
  replace E := Fa.ext E (by intro x hx; simp only [List.mem_singleton] at hx; rw [hx]; exact D2.sn.low)
  refine ⟨_, rfl, HSn, fun a H => ?_⟩
  replace HS := HSn
  clear HSn
  refine g_take 45 H rfl (wanted_true H rfl rfl rfl rfl) rfl (by decide) (by kernel_rfl) (by kernel_rfl) (by kernel_rfl) HS (fun w' hSw => (x_binI H rfl rfl rfl (b_neq (b := false) (bne_f (congrArg (fun k : Nat => (k : Int)) q1))))) ?_
  clear H a; intro a H
  refine g_take 46 H rfl (wanted_none rfl) rfl (by decide) (by kernel_rfl) (by kernel_rfl) (by kernel_rfl) HS (fun w' hSw => (x_pickF H rfl rfl rfl)) ?_
  clear H a; intro a H
  refine g_take 47 H rfl (wanted_none rfl) rfl (by decide) (by kernel_rfl) (by kernel_rfl) (by kernel_rfl) HS (fun w' hSw => (x_move H rfl rfl)) ?_
  clear H a; intro a H
  refine g_take 48 H rfl (wanted_true H rfl rfl rfl rfl) rfl (by decide) (by kernel_rfl) (by kernel_rfl) (by kernel_rfl) HS (fun w' hSw => (x_move H rfl rfl)) ?_
  clear H a; intro a H
  refine g_take 49 H rfl (wanted_true H rfl rfl rfl rfl) rfl (by decide) (by kernel_rfl) (by kernel_rfl) (by kernel_rfl) HS (fun w' hSw => (x_nilCheck H rfl rfl)) ?_
  clear H a; intro a H
  refine g_take 50 H rfl (wanted_true H rfl rfl rfl rfl) rfl (by decide) (by kernel_rfl) (by kernel_rfl) (by kernel_rfl) HS (fun w' hSw => (x_fieldAddr H rfl rfl (fa158_0 _ _))) ?_
  clear H a; intro a H
  refine g_take 51 H rfl (wanted_true H rfl rfl rfl rfl) rfl (by decide) (by kernel_rfl) (by kernel_rfl) (by kernel_rfl) HS (fun w' hSw => (x_load H rfl rfl (l_cell Try.isAgg64 (hSw.1.at_ (i := 0) rfl)))) ?_
  clear H a; intro a H
  refine g_call 52 H rfl (by kernel_rfl) (wanted_true H rfl rfl rfl rfl) rfl (by decide) rfl rfl (Try.call55 _) (left_any w0.heap.size gs V.vs s3 _ D3.sn) ?_
  clear H a
  rintro e wn2 ⟨rfl, hwn⟩
  rw [hwn]
  refine ⟨_, rfl, HS, fun a H => ?_⟩
  rw [hu1] at H
  refine g_take 53 H rfl (wanted_true H rfl rfl rfl rfl) rfl (by decide) (by kernel_rfl) (by kernel_rfl) (by kernel_rfl) HS (fun w' hSw => (x_binI H rfl rfl rfl (b_neq (b := false) (rfl)))) ?_
  clear H a; intro a H
  refine g_take 54 H rfl (wanted_none rfl) rfl (by decide) (by kernel_rfl) (by kernel_rfl) (by kernel_rfl) HS (fun w' hSw => (x_pickF H rfl rfl rfl)) ?_
  clear H a; intro a H
  refine g_take 55 H rfl (wanted_none rfl) rfl (by decide) (by kernel_rfl) (by kernel_rfl) (by kernel_rfl) HS (fun w' hSw => (x_move H rfl rfl)) ?_
  clear H a; intro a H
  refine g_take 56 H rfl (wanted_true H rfl rfl rfl rfl) rfl (by decide) (by kernel_rfl) (by kernel_rfl) (by kernel_rfl) HS (fun w' hSw => (x_move H rfl rfl)) ?_
  clear H a; intro a H
  refine g_take 57 H rfl (wanted_true H rfl rfl rfl rfl) rfl (by decide) (by kernel_rfl) (by kernel_rfl) (by kernel_rfl) HS (fun w' hSw => (x_nilCheck H rfl rfl)) ?_
  clear H a; intro a H
  refine g_take 58 H rfl (wanted_true H rfl rfl rfl rfl) rfl (by decide) (by kernel_rfl) (by kernel_rfl) (by kernel_rfl) HS (fun w' hSw => (x_fieldAddr H rfl rfl (fa158_0 _ _))) ?_
  clear H a; intro a H
  refine g_take 59 H rfl (wanted_true H rfl rfl rfl rfl) rfl (by decide) (by kernel_rfl) (by kernel_rfl) (by kernel_rfl) HS (fun w' hSw => (x_load H rfl rfl (l_cell Try.isAgg64 (hSw.1.at_ (i := 0) rfl)))) ?_
  clear H a; intro a H
  refine g_call 60 H rfl (by kernel_rfl) (wanted_true H rfl rfl rfl rfl) rfl (by decide) rfl rfl (Try.call52 _) (out_any w0.heap.size gs V.vs s3 _ D3.sn) ?_
  clear H a
  rintro e wn ⟨vo, ys, rfl, RY, EY, Ey⟩
  replace D3 := D3.ext Ey
  replace OO := OO.ext Ey
  have HSn : Blk wn gw 158 (wCells gs gr V) ∧ Rw wn w0.heap.size 22 (.slice (some ⟨go, oo, none⟩) xs.length oc) xs := ⟨D3.blk, OO.row⟩
  replace E := E.tr Ey
  obtain ⟨ya, yc, rfl, _⟩ := RY.shape
  have hyl : ys.length = 1 := by rw [EY.len, List.length_map, hu1]; rfl
  refine ⟨_, rfl, HSn, fun a H => ?_⟩
  replace HS := HSn
  clear HSn
  refine g_take 61 H rfl (wanted_true H rfl rfl rfl rfl) rfl (by decide) (by kernel_rfl) (by kernel_rfl) (by kernel_rfl) HS (fun w' hSw => (x_builtin H rfl rfl (fun cs => len_sl Try.underlying37))) ?_
  clear H a; intro a H
  refine g_take 62 H rfl (wanted_true H rfl rfl rfl rfl) rfl (by decide) (by kernel_rfl) (by kernel_rfl) (by kernel_rfl) HS (fun w' hSw => (x_binI H rfl rfl rfl (b_neq (b := false) (bne_f (by rw [hyl]; rfl))))) ?_
  clear H a; intro a H
  refine g_take 63 H rfl (wanted_none rfl) rfl (by decide) (by kernel_rfl) (by kernel_rfl) (by kernel_rfl) HS (fun w' hSw => (x_pickF H rfl rfl rfl)) ?_
  clear H a; intro a H
  refine g_done (by kernel_rfl) (hR.out _ _ ?_)
  clear hR R
  refine hK7 _ _ ?_
  clear hK7 K7
  refine c_false H rfl ?_
  refine wp_skip ?_
  refine hK6 _ _ ?_
  clear hK6 K6
  refine wp_seq_k (fun K8 hK8 => ?_)
  refine e_region (fun R hR => ?_)
  refine e_callq H rfl rfl (by decide) rfl rfl (Try.call99 _) (newSender_any 8 none 0 0 [] wn (Bs.nil _ _) (fun _ => rfl) (by omega) (by omega)) ?_
  clear H a
  rintro e w8 ⟨g8, v8, rfl, S8, hg8, E8⟩
  replace D3 := D3.ext E8
  replace S8 := S8.mono E.sz
  replace E := E.tr E8
  refine ⟨_, rfl, fun a H => ?_⟩
  refine e_op H rfl rfl (by decide) (x_move H rfl rfl) ?_
  clear H a; intro a H
  refine e_op H rfl rfl (by decide) (x_extract H rfl rfl (v := .pointer (some ⟨g8, 0, none⟩)) rfl) ?_
  clear H a; intro a H
  refine e_op H rfl rfl (by decide) (x_extract H rfl rfl (v := .int .i64 0) rfl) ?_
  clear H a; intro a H
  refine e_op H rfl rfl (by decide) (x_assign H rfl rfl) ?_
  clear H a; intro a H
  refine e_op H rfl rfl (by decide) (x_assign H rfl rfl) ?_
  clear H a; intro a H
  refine e_nil (hR.out _ _ ?_)
  clear hR R
  refine hK8 _ _ ?_
  clear hK8 K8
  refine wp_seq_k (fun K9 hK9 => ?_)
  refine wp_seq_k (fun K10 hK10 => ?_)
  refine e_region (fun R hR => ?_)
  refine e_op H rfl rfl (by decide) (x_move H rfl rfl) ?_
  clear H a; intro a H
  refine e_op H rfl rfl (by decide) (x_binI H rfl rfl rfl (b_neq (b := false) (rfl))) ?_
  clear H a; intro a H
  refine e_op H rfl rfl (by decide) (x_move H rfl rfl) ?_
  clear H a; intro a H
  refine e_opg H (wanted_true H rfl rfl rfl rfl) rfl (by decide) (x_move H rfl rfl) ?_
  clear H a; intro a H
  refine e_opg H (wanted_true H rfl rfl rfl rfl) rfl (by decide) (x_bin H rfl rfl rfl (by rw [eqGuard_at_pointer]; rfl) (b_pnil (c := false) Try.underlying64 rfl)) ?_
  clear H a; intro a H
  refine e_op H rfl rfl (by decide) (x_pickF H rfl rfl rfl) ?_
  clear H a; intro a H
  refine e_nil (hR.out _ _ ?_)
  clear hR R
  refine hK10 _ _ ?_
  clear hK10 K10
  refine c_false H rfl ?_
  refine wp_skip ?_
  refine hK9 _ _ ?_
  clear hK9 K9
  refine wp_seq_k (fun K11 hK11 => ?_)
  refine e_region (fun R hR => ?_)
  refine e_op H rfl rfl (by decide) (x_move H rfl rfl) ?_
  clear H a; intro a H
  refine e_callq H rfl rfl (by decide) rfl rfl (Try.call52 _) (out_any w0.heap.size g8 v8 _ w8 S8) ?_
  clear H a
  rintro e w9 ⟨vz, zs, rfl, RZ, EZ, Ez⟩
  have OZ := Outs.of D3.rv RZ EZ E.sz
  replace D3 := D3.ext Ez
  replace E := E.tr Ez
  obtain ⟨za, zc, rfl, _⟩ := RZ.shape
  clear RZ EZ
  have huz : (unm (gb (⟨8, [], noMarks⟩ : Snd).acked) (chunksT (⟨8, [], noMarks⟩ : Snd).file.length)).take 8 = [0] := by rw [show (⟨8, [], noMarks⟩ : Snd).acked = noMarks from rfl, unm_no]; decide
  rw [huz] at OZ
  have hz1 : zs.length = 1 := by rw [OZ.els.len]; rfl
  have hz0 : ([0].map (pkt 8 []))[0]? = some (pkt 8 [] 0) := rfl
  refine ⟨_, rfl, fun a H => ?_⟩
  refine e_op H rfl rfl (by decide) (x_assign H rfl rfl) ?_
  clear H a; intro a H
  refine e_nil (hR.out _ _ ?_)
  clear hR R
  refine hK11 _ _ ?_
  clear hK11 K11
  refine wp_seq_k (fun K12 hK12 => ?_)
  obtain ⟨gz, oz, fa, fc, hza, _, _, hF0, f0⟩ := OZ.elem 0 (pkt 8 [] 0) hz0
  subst hza
  obtain ⟨we, hwe⟩ : ∃ wx, wx = w9.drew := ⟨_, rfl⟩
  have Ewe : Ext w9 we := by rw [hwe]; exact (Ext.refl _).dr
  replace D3 := D3.ext Ewe
  replace OZ := OZ.ext Ewe
  replace E := E.tr Ewe
  have HT : Blk we gw 158 (wCells gs gr V) ∧ Rw we w0.heap.size 22 (.slice (some ⟨gz, oz, none⟩) zs.length zc) zs := ⟨D3.blk, OZ.row⟩
  have hF := hF0.ext_ Ewe
  refine g_start (fun w' => Blk w' gw 158 (wCells gs gr V) ∧ Rw w' w0.heap.size 22 (.slice (some ⟨gz, oz, none⟩) zs.length zc) zs) (by kernel_rfl) (fun R hR => ?_)
  rw [← hwe]
  refine g_take 0 H rfl (wanted_none rfl) rfl (by decide) (by kernel_rfl) (by kernel_rfl) (by kernel_rfl) HT (fun w' hSw => (x_move H rfl rfl)) ?_
  clear H a; intro a H
  refine g_take 1 H rfl (wanted_none rfl) rfl (by decide) (by kernel_rfl) (by kernel_rfl) (by kernel_rfl) HT (fun w' hSw => (x_builtin H rfl rfl (fun cs => len_sl Try.underlying37))) ?_
  clear H a; intro a H
  refine g_take 2 H rfl (wanted_none rfl) rfl (by decide) (by kernel_rfl) (by kernel_rfl) (by kernel_rfl) HT (fun w' hSw => (x_binI H rfl rfl rfl (b_eql (b := true) (beq_t (by rw [hz1]; rfl))))) ?_
  clear H a; intro a H
  refine g_take 3 H rfl (wanted_none rfl) rfl (by decide) (by kernel_rfl) (by kernel_rfl) (by kernel_rfl) HT (fun w' hSw => (x_move H rfl rfl)) ?_
  clear H a; intro a H
  refine g_take 4 H rfl (wanted_true H rfl rfl rfl rfl) rfl (by decide) (by kernel_rfl) (by kernel_rfl) (by kernel_rfl) HT (fun w' hSw => (x_move H rfl rfl)) ?_
  clear H a; intro a H
  refine g_take 5 H rfl (wanted_true H rfl rfl rfl rfl) rfl (by decide) (by kernel_rfl) (by kernel_rfl) (by kernel_rfl) HT (fun w' hSw => (x_nilCheck H rfl rfl)) ?_
  clear H a; intro a H
  refine g_take 6 H rfl (wanted_true H rfl rfl rfl rfl) rfl (by decide) (by kernel_rfl) (by kernel_rfl) (by kernel_rfl) HT (fun w' hSw => (x_fieldAddr H rfl rfl (fa158_1 _ _))) ?_
  clear H a; intro a H
  refine g_take 7 H rfl (wanted_true H rfl rfl rfl rfl) rfl (by decide) (by kernel_rfl) (by kernel_rfl) (by kernel_rfl) HT (fun w' hSw => (x_load H rfl rfl (l_cell Try.isAgg65 (hSw.1.at_ (i := 1) rfl)))) ?_
  clear H a; intro a H
  refine g_take 8 H rfl (wanted_true H rfl rfl rfl rfl) rfl (by decide) (by kernel_rfl) (by kernel_rfl) (by kernel_rfl) HT (fun w' hSw => (x_move H rfl rfl)) ?_
  clear H a; intro a H
  refine g_take 9 H rfl (wanted_true H rfl rfl rfl rfl) rfl (by decide) (by kernel_rfl) (by kernel_rfl) (by kernel_rfl) HT (fun w' hSw => (x_indexAddr H rfl rfl rfl (i_sl (m := 0) Try.underlying37 Try.sizeOf22 rfl (by omega)))) ?_
  clear H a; intro a H
  refine g_take 10 H rfl (wanted_true H rfl rfl rfl rfl) rfl (by decide) (by kernel_rfl) (by kernel_rfl) (by kernel_rfl) HT (fun w' hSw => (x_load H rfl rfl (l_cell Try.isAgg22 (hSw.2.cells 0 _ f0)))) ?_
  clear H a; intro a H
  refine g_call 11 H rfl (by kernel_rfl) (wanted_true H rfl rfl rfl rfl) rfl (by decide) rfl rfl (Try.call56 _) (in_any w0.heap.size gr v2 r2 fa _ fc (pkt 8 [] 0) _ D3.rv hF.bs (ow_cap hF) (ow_le hF) (by have := pkt_len 8 [] 0 (by omega) (by simp) (by omega); omega)) ?_
  clear H a
  rintro e wn ⟨rfl, v9, R9, F9, hw9, _⟩
  rw [hst r2 K2] at R9 ⊢
  have D9 := D3.rcv F9 R9 hw9
  have OZ9 := OZ.rcv D3.rv F9 hw9
  replace E := F9.ext E (own_ge D3)
  refine ⟨_, rfl, ⟨D9.blk, OZ9.row⟩, fun a H => ?_⟩
  replace HT : Blk wn gw 158 (wCells gs gr V) ∧ Rw wn w0.heap.size 22 (.slice (some ⟨gz, oz, none⟩) zs.length zc) zs := ⟨D9.blk, OZ9.row⟩
  refine g_take 12 H rfl (wanted_true H rfl rfl rfl rfl) rfl (by decide) (by kernel_rfl) (by kernel_rfl) (by kernel_rfl) HT (fun w' hSw => (x_binI H rfl rfl rfl (b_eql (b := true) (rfl)))) ?_
  clear H a; intro a H
  refine g_take 13 H rfl (wanted_none rfl) rfl (by decide) (by kernel_rfl) (by kernel_rfl) (by kernel_rfl) HT (fun w' hSw => (x_pickT H rfl rfl rfl)) ?_
  clear H a; intro a H
  refine g_take 14 H rfl (wanted_none rfl) rfl (by decide) (by kernel_rfl) (by kernel_rfl) (by kernel_rfl) HT (fun w' hSw => (x_assign H rfl rfl)) ?_
  clear H a; intro a H
  refine g_done (by kernel_rfl) (hR.out _ _ ?_)
  clear hR R
  refine hK12 _ _ ?_
  clear hK12 K12
  refine wp_ret ?_
  exact ret1 H rfl rfl ⟨rfl, E⟩
end Go.Proofs.Ytknllmcpogoeoaa
