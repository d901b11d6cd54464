/- TransferEnds, walked. -/
import Derived.Test.YtknllmcpogoeoaaT26
namespace Go.Proofs.Ytknllmcpogoeoaa
open Go.RowKit
set_option linter.unusedVariables false
set_option linter.unusedSimpArgs false
set_option maxRecDepth 100000
/-- what holds of the two sides alone -/
structure We (p : Wp) (id : Nat) (file : List UInt8) : Prop where
  sid : p.s.id = id
  sfile : p.s.file = file
  alen : p.s.acked.length = 1024
  rof : p.r.of id file
  sub : ∀ k, gb p.s.acked k = true → gb p.r.has k = true
theorem Wok.we {p : Wp} {id : Nat} {file : List UInt8} (h : Wok p id file) : We p id file := ⟨h.sid, h.sfile, h.alen, h.rof, h.sub⟩
/-- the end of a play -/
theorem We.fin {p : Wp} {id : Nat} {file : List UInt8} (h : We p id file) (hz : (unm (gb p.s.acked) (chunksT file.length)).length = 0) : p.r.done = true ∧ p.r.data = file ∧ p.r.prefix_ = file := by
  have hz0 := List.eq_nil_of_length_eq_zero hz
  have hall : ∀ k, k < chunksT file.length → gb p.r.has k = true := fun k hk => h.sub k (by
    cases h2 : gb p.s.acked k with
    | true => rfl
    | false =>
      have := mem_unm.2 ⟨hk, h2⟩
      rw [hz0] at this
      cases this)
  have hf := front_all.2 hall
  have hdn : p.r.done = true := by rw [h.rof.done_]; exact decide_eq_true hf
  refine ⟨hdn, h.rof.file_ hdn, ?_⟩
  rw [h.rof.prefix_, hf]
  refine List.take_of_length_le ?_
  unfold chunksT
  omega
set_option maxHeartbeats 8000000 in
theorem transferEnds_any (x : Nat) (ad : Option Addr) (n c : Nat) (f : List UInt8) (t : Nat) (am : Option Addr) (nm cm : Nat) (ms : List Mv) (w0 : World) (hxx : x ≤ 4294967295) (hb : Bs w0 ad n f) (hz : ad = none → c = 0) (hn : n ≤ 140737488351232) (htt : t ≤ 255)
    (hms : Ms w0 am nm ms) (hnm : nm ≤ 140737488351232) :
    Calls Try.prog 31 #[.int .u32 (x : Int), .agg #[.slice ad n c, .int .u8 (t : Int)], .slice am nm cm] w0 fun e w' => e = .returned (.bool true) ∧ Ext w0 w' := by
  obtain ⟨fb, hfb⟩ : ∃ fb, fb = fileB f t := ⟨_, rfl⟩
  have hfl := fileB_len f t
  rw [← hfb] at hfl
  have hml := hms.leng
  obtain ⟨cnt, hcnt⟩ : ∃ c, c = min nm 40 := ⟨_, rfl⟩
  have hNC : (chunksT fb.length) ≤ 32 := by unfold chunksT; omega
  refine calls_has (args := [.int .u32 (x : Int), .agg #[.slice ad n c, .int .u8 (t : Int)], .slice am nm cm]) Try.func31 rfl Try.ntmps31 (Nat.le_of_ble_eq_true rfl) (fun a H => ?_)
  simp only [argl, Nat.reduceAdd] at H
  refine wp_seq_k (fun K1 hK1 => ?_)
  refine e_region (fun R hR => ?_)
  refine e_op H rfl rfl (by decide) (x_box H rfl rfl bx_new) ?_
  clear H a; intro a H
  have T3 := Blk.new w0 148 [.slice ad n c, .int .u8 (t : Int)]
  have E01 := (Ext.refl w0).al (.cells #[.slice ad n c, .int .u8 (t : Int)] 148)
  obtain ⟨g3, hg3⟩ : ∃ g, g = w0.heap.size := ⟨_, rfl⟩
  rw [← hg3] at H T3
  generalize w0.alloc (.cells #[.slice ad n c, .int .u8 (t : Int)] 148) = w1 at *
  refine e_op H rfl rfl (by decide) (x_assign H rfl rfl) ?_
  clear H a; intro a H
  refine e_nil (hR.out _ _ ?_)
  clear hR R
  refine hK1 _ _ ?_
  clear hK1 K1
  refine wp_seq_k (fun K2 hK2 => ?_)
  refine wp_seq_k (fun K3 hK3 => ?_)
  refine e_region (fun R hR => ?_)
  refine e_callq H rfl rfl (by decide) rfl rfl (Try.call51 _) (awake_any w1) ?_
  clear H a
  rintro e w2 ⟨rfl, E⟩
  refine ⟨_, rfl, fun a H => ?_⟩
  refine e_op H rfl rfl (by decide) (x_un H rfl rfl (u_not (c := false) (rfl))) ?_
  clear H a; intro a H
  refine e_nil (hR.out _ _ ?_)
  clear hR R
  refine hK3 _ _ ?_
  clear hK3 K3
  refine c_false H rfl ?_
  refine wp_skip ?_
  refine hK2 _ _ ?_
  clear hK2 K2
  refine wp_seq_k (fun K4 hK4 => ?_)
  refine e_region (fun R hR => ?_)
  refine e_op H rfl rfl (by decide) (x_move H rfl rfl) ?_
  clear H a; intro a H
  refine e_op H rfl rfl (by decide) (x_load H rfl rfl (ld_file (T3.ext E))) ?_
  clear H a; intro a H
  refine e_callq H rfl rfl (by decide) rfl rfl (Try.call98 _) (bytesG_any ad n c f t fb hfb w2 (E.bs (E01.bs hb)) hz hn htt) ?_
  clear H a
  rintro e w3 ⟨fa, fc, rfl, OF, E3⟩
  refine ⟨_, rfl, fun a H => ?_⟩
  replace OF := OF.mono E.sz
  replace E := E.tr E3
  refine e_callq H rfl rfl (by decide) rfl rfl (Try.call97 _) (begin_any w1.heap.size x fa fb.length fc fb w3 OF E.sz (by omega) (by omega)) ?_
  clear H a
  rintro e w4 ⟨gw, gs, gr, V0, rfl, D, h1, h2, h3, hvl, E4⟩
  refine ⟨_, rfl, fun a H => ?_⟩
  replace E := E.tr E4
  refine e_op H rfl rfl (by decide) (x_assign H rfl rfl) ?_
  clear H a; intro a H
  refine e_nil (hR.out _ _ ?_)
  clear hR R
  refine hK4 _ _ ?_
  clear hK4 K4
  refine wp_seq_k (fun K5 hK5 => ?_)
  refine wp_seq_k (fun K6 hK6 => ?_)
  refine e_region (fun R hR => ?_)
  refine e_op H rfl rfl (by decide) (x_move H rfl rfl) ?_
  clear H a; intro a H
  refine e_op H rfl rfl (by decide) (x_bin H rfl rfl rfl (by rw [eqGuard_at_pointer]; rfl) (b_pnil (c := false) Try.underlying149 rfl)) ?_
  clear H a; intro a H
  refine e_nil (hR.out _ _ ?_)
  clear hR R
  refine hK6 _ _ ?_
  clear hK6 K6
  refine c_false H rfl ?_
  refine wp_skip ?_
  refine hK5 _ _ ?_
  clear hK5 K5
  refine wp_seq_k (fun K7 hK7 => ?_)
  refine wp_seq_k (fun K8 hK8 => ?_)
  refine e_region (fun R hR => ?_)
  refine e_op H rfl rfl (by decide) (x_assign H rfl rfl) ?_
  clear H a; intro a H
  refine e_nil (hR.out _ _ ?_)
  clear hR R
  refine hK8 _ _ ?_
  clear hK8 K8
  refine wp_block ?_
  refine wp_loop_ghost (fun n' a w => ∃ k V p, k ≤ cnt ∧ n' = cnt - k ∧ Has a 149 [(2, .slice am nm cm), (7, .pointer (some ⟨gw, 0, none⟩)), (8, .int .i64 (k : Int))] ∧ Wd w w1.heap.size gw gs gr V p ∧ Wok p x fb ∧ Ext w1 w) (cnt) ?_ ?_
  · skip
    exact ⟨0, V0, p0 x fb, by omega, rfl, H.sub ⟨rfl, rfl, rfl, trivial⟩, D, p0_ok x fb (by omega) (by omega), E⟩
  · skip
    clear H D E
    intro n a w hI
    obtain ⟨k, V, p, hk, rfl, H, D, K, E⟩ := hI
    rcases (show k < cnt ∨ k = cnt by omega) with hlt | hke
    · skip
      obtain ⟨s, hs⟩ : ∃ s, ms[k]? = some s := ⟨ms[k], List.getElem?_eq_getElem (by omega)⟩
      obtain ⟨mb, mo, hae, hso, hld⟩ := ld_move ((hms.ext E01).ext E) hs
      refine wp_seq_k (fun K9 hK9 => ?_)
      refine wp_seq_k (fun K10 hK10 => ?_)
      refine e_region (fun R hR => ?_)
      refine e_op H rfl rfl (by decide) (x_move H rfl rfl) ?_
      clear H a; intro a H
      refine e_op H rfl rfl (by decide) (x_move H rfl rfl) ?_
      clear H a; intro a H
      refine e_op H rfl rfl (by decide) (x_builtin H rfl rfl (fun cs => len_sl Try.underlying165)) ?_
      clear H a; intro a H
      refine e_op H rfl rfl (by decide) (x_binI H rfl rfl rfl (b_lss (b := true) (dec_t (by omega)))) ?_
      clear H a; intro a H
      refine e_op H rfl rfl (by decide) (x_move H rfl rfl) ?_
      clear H a; intro a H
      refine e_opg H (wanted_true H rfl rfl rfl rfl) rfl (by decide) (x_move H rfl rfl) ?_
      clear H a; intro a H
      refine e_opg H (wanted_true H rfl rfl rfl rfl) rfl (by decide) (x_binI H rfl rfl rfl (b_lss (b := true) (dec_t (by omega)))) ?_
      clear H a; intro a H
      refine e_op H rfl rfl (by decide) (x_pickT H rfl rfl rfl) ?_
      clear H a; intro a H
      refine e_nil (hR.out _ _ ?_)
      clear hR R
      refine hK10 _ _ ?_
      clear hK10 K10
      refine c_true H rfl ?_
      refine wp_skip ?_
      refine hK9 _ _ ?_
      clear hK9 K9
      refine wp_seq_k (fun K11 hK11 => ?_)
      refine wp_block ?_
      refine e_region (fun R hR => ?_)
      rw [hae] at H
      refine e_op H rfl rfl (by decide) (x_move H rfl rfl) ?_
      clear H a; intro a H
      refine e_op H rfl rfl (by decide) (x_move H rfl rfl) ?_
      clear H a; intro a H
      refine e_op H rfl rfl (by decide) (x_move H rfl rfl) ?_
      clear H a; intro a H
      refine e_op H rfl rfl (by decide) (x_indexAddr H rfl rfl rfl (i_slN (m := k) Try.underlying165 size168_ rfl (by omega))) ?_
      clear H a; intro a H
      refine e_op H rfl rfl (by decide) (x_load H rfl rfl hld) ?_
      clear H a; intro a H
      refine e_callq H rfl rfl (by decide) rfl rfl (Try.call102 _) (do_any w1 gw gs gr x fb V p s.kind s.at_ s.bits s.stay w D K E hso.1 hso.2.1 hso.2.2) ?_
      clear H a
      rintro e wn ⟨rfl, V2, p2, D2, K2, En⟩
      refine ⟨_, rfl, fun a H => ?_⟩
      refine e_nil (hR.out _ _ ?_)
      clear hR R
      refine hK11 _ _ ?_
      clear hK11 K11
      refine e_region (fun R hR => ?_)
      refine e_op H rfl rfl (by decide) (x_move H rfl rfl) ?_
      clear H a; intro a H
      refine e_op H rfl rfl (by decide) (x_binI H rfl rfl rfl (b_add (z := ((k + 1 : Nat) : Int)) (by rw [IntKind.wrap_i64]; omega))) ?_
      clear H a; intro a H
      refine e_op H rfl rfl (by decide) (x_assign H rfl rfl) ?_
      clear H a; intro a H
      refine e_nil (hR.out _ _ ?_)
      clear hR R
      rw [← hae] at H
      exact ⟨cnt - (k + 1), by omega, k + 1, V2, p2, by omega, rfl, H.sub ⟨rfl, rfl, rfl, trivial⟩, D2, K2, En⟩
    · skip
      skip
      refine wp_seq_k (fun K12 hK12 => ?_)
      refine wp_seq_k (fun K13 hK13 => ?_)
      obtain ⟨wl, hwl⟩ : ∃ x, x = w := ⟨_, rfl⟩
      rw [← hwl] at D E ⊢
      clear hwl w
      refine Code.wp_mono (Q := fun e a w => e = Exit.normal ∧ Has a 149 [(7, .pointer (some ⟨gw, 0, none⟩)), (30, .bool false)] ∧ w = wl) (fun e a w hM => ?_) ?_
      · skip
        clear H
        obtain ⟨rfl, H, hww⟩ := hM
        rw [hww]
        clear hww w
        refine hK13 _ _ ?_
        clear hK13 K13
        refine c_false H rfl ?_
        refine wp_exit ?_
        refine t_exit ?_
        refine t_exit ?_
        refine b_hit ?_
        clear hK12 K12
        refine hK7 _ _ ?_
        clear hK7 K7
        refine wp_seq_k (fun K14 hK14 => ?_)
        refine wp_seq_k (fun K15 hK15 => ?_)
        refine e_region (fun R hR => ?_)
        refine e_op H rfl rfl (by decide) (x_move H rfl rfl) ?_
        clear H a; intro a H
        refine e_nil (hR.out _ _ ?_)
        clear hR R
        refine hK15 _ _ ?_
        clear hK15 K15
        refine wp_block ?_
        refine wp_loop_ghost (fun n' a w => ∃ j V p, j ≤ 40 ∧ n' = 40 - j ∧ Has a 149 [(7, .pointer (some ⟨gw, 0, none⟩)), (39, .int .i64 (j : Int))] ∧ Wd w w1.heap.size gw gs gr V p ∧ We p x fb ∧ (unm (gb p.s.acked) (chunksT fb.length)).length ≤ 32 - 8 * j ∧ Ext w1 w) (40) ?_ ?_
        · skip
          exact ⟨0, V, p, by omega, rfl, H.sub ⟨rfl, rfl, trivial⟩, D, K.we, (by have := unm_len (gb p.s.acked) (chunksT fb.length); omega), E⟩
        · skip
          clear H D K E
          intro n a w hI
          obtain ⟨j, V, p, hj, rfl, H, D, KE, hU, E⟩ := hI
          rcases (show j < 40 ∨ j = 40 by omega) with hlt | hje
          · skip
            skip
            refine wp_seq_k (fun K16 hK16 => ?_)
            refine e_region (fun R hR => ?_)
            refine e_op H rfl rfl (by decide) (x_binI H rfl rfl rfl (b_lss (b := true) (dec_t (by omega)))) ?_
            clear H a; intro a H
            refine e_nil (hR.out _ _ ?_)
            clear hR R
            refine hK16 _ _ ?_
            clear hK16 K16
            refine wp_seq_k (fun K17 hK17 => ?_)
            refine c_true H rfl ?_
            refine wp_skip ?_
            refine hK17 _ _ ?_
            clear hK17 K17
            refine wp_seq_k (fun K18 hK18 => ?_)
            refine wp_block ?_
            refine wp_seq_k (fun K19 hK19 => ?_)
            refine e_region (fun R hR => ?_)
            refine e_op H rfl rfl (by decide) (x_move H rfl rfl) ?_
            clear H a; intro a H
            refine e_op H rfl rfl (by decide) (x_nilCheck H rfl rfl) ?_
            clear H a; intro a H
            refine e_op H rfl rfl (by decide) (x_fieldAddr H rfl rfl (fa158_0 _ _)) ?_
            clear H a; intro a H
            refine e_op H rfl rfl (by decide) (x_load H rfl rfl (l_cell Try.isAgg64 (D.blk.at_ (i := 0) rfl))) ?_
            clear H a; intro a H
            refine e_callq H rfl rfl (by decide) rfl rfl (Try.call52 _) (out_any w1.heap.size gs V.vs p.s w D.sn) ?_
            clear H a
            rintro e wo ⟨vz, zs, rfl, RZ, EZ, EX3⟩
            have OO := Outs.of D.rv RZ EZ E.sz
            replace D := D.ext EX3
            replace E := E.tr EX3
            obtain ⟨za, zc, rfl, _⟩ := RZ.shape
            clear RZ EZ EX3
            obtain ⟨us, hus⟩ : ∃ us, us = (unm (gb p.s.acked) (chunksT fb.length)).take 8 := ⟨_, rfl⟩
            rw [KE.sid, KE.sfile, ← hus] at OO
            have hzl : zs.length = us.length := by rw [OO.els.len, List.length_map]
            have hul : us.length = min 8 (unm (gb p.s.acked) (chunksT fb.length)).length := by rw [hus, List.length_take]
            refine ⟨_, rfl, fun a H => ?_⟩
            refine e_op H rfl rfl (by decide) (x_assign H rfl rfl) ?_
            clear H a; intro a H
            refine e_nil (hR.out _ _ ?_)
            clear hR R
            refine hK19 _ _ ?_
            clear hK19 K19
            refine wp_seq_k (fun K20 hK20 => ?_)
            refine e_region (fun R hR => ?_)
            refine e_op H rfl rfl (by decide) (x_move H rfl rfl) ?_
            clear H a; intro a H
            refine e_op H rfl rfl (by decide) (x_nilCheck H rfl rfl) ?_
            clear H a; intro a H
            refine e_op H rfl rfl (by decide) (x_fieldAddr H rfl rfl (fa158_0 _ _)) ?_
            clear H a; intro a H
            refine e_op H rfl rfl (by decide) (x_load H rfl rfl (l_cell Try.isAgg64 (D.blk.at_ (i := 0) rfl))) ?_
            clear H a; intro a H
            refine e_callq H rfl rfl (by decide) rfl rfl (Try.call55 _) (left_any w1.heap.size gs V.vs p.s wo D.sn) ?_
            clear H a
            rintro e wy ⟨rfl, hwy⟩
            rw [hwy, KE.sfile]
            refine ⟨_, rfl, fun a H => ?_⟩
            refine e_op H rfl rfl (by decide) (x_assign H rfl rfl) ?_
            clear H a; intro a H
            refine e_nil (hR.out _ _ ?_)
            clear hR R
            refine hK20 _ _ ?_
            clear hK20 K20
            refine wp_seq_k (fun K21 hK21 => ?_)
            refine wp_seq_k (fun K22 hK22 => ?_)
            refine e_region (fun R hR => ?_)
            refine e_op H rfl rfl (by decide) (x_move H rfl rfl) ?_
            clear H a; intro a H
            refine e_op H rfl rfl (by decide) (x_builtin H rfl rfl (fun cs => len_sl Try.underlying37)) ?_
            clear H a; intro a H
            refine e_op H rfl rfl (by decide) (x_move H rfl rfl) ?_
            clear H a; intro a H
            refine e_nil (hR.out _ _ ?_)
            clear hR R
            refine hK22 _ _ ?_
            clear hK22 K22
            refine wp_block ?_
            refine wp_loop_ghost (fun n' a w => ∃ i y1 ry, i ≤ zs.length ∧ n' = zs.length - i ∧ Has a 149 [(7, .pointer (some ⟨gw, 0, none⟩)), (9, .slice za zs.length zc), (10, .int .i64 (((unm (gb p.s.acked) (chunksT fb.length)).length : Nat) : Int)), (39, .int .i64 (j : Int)), (51, .slice za zs.length zc), (52, .int .i64 ((zs.length : Nat) : Int)), (53, .int .i64 (i : Int))] ∧ Wd w w1.heap.size gw gs gr { V with vr := y1 } { p with r := ry } ∧ ry.of x fb ∧ (∀ k, gb p.r.has k = true → gb ry.has k = true) ∧ (∀ k, k ∈ us.take i → gb ry.has k = true) ∧ Outs w w1.heap.size y1 (.slice za zs.length zc) zs (us.map (pkt x fb)) ∧ Ext w1 w) (zs.length) ?_ ?_
            · skip
              exact ⟨0, V.vr, p.r, by omega, rfl, H.sub ⟨rfl, rfl, rfl, rfl, rfl, rfl, rfl, trivial⟩, D, KE.rof, fun _ h => h, fun k hk => by simp at hk, OO, E⟩
            · skip
              clear H OO D E
              intro n a w hI
              obtain ⟨i, y1, ry, hi, rfl, H, D, KY, GM, GU, OZ, E⟩ := hI
              rcases (show i < zs.length ∨ i = zs.length by omega) with hlt | hie
              · skip
                obtain ⟨k, hk⟩ : ∃ k, us[i]? = some k := ⟨us[i], List.getElem?_eq_getElem (by omega)⟩
                have hkc : k < (chunksT fb.length) := (mem_unm.1 (List.mem_of_mem_take (hus ▸ List.mem_of_getElem? hk))).1
                have hrl : (us.map (pkt x fb))[i]? = some (pkt x fb k) := by rw [List.getElem?_map, hk]; rfl
                obtain ⟨gz, oz, ap, cp, hza, hposz, hcl, hOp, _⟩ := OZ.elem i _ hrl
                rw [hza] at H OZ
                refine wp_seq_k (fun K23 hK23 => ?_)
                refine e_region (fun R hR => ?_)
                refine e_op H rfl rfl (by decide) (x_binI H rfl rfl rfl (b_lss (b := true) (dec_t (by omega)))) ?_
                clear H a; intro a H
                refine e_nil (hR.out _ _ ?_)
                clear hR R
                refine hK23 _ _ ?_
                clear hK23 K23
                refine wp_seq_k (fun K24 hK24 => ?_)
                refine c_true H rfl ?_
                refine wp_skip ?_
                refine hK24 _ _ ?_
                clear hK24 K24
                refine wp_seq_k (fun K25 hK25 => ?_)
                refine wp_block ?_
                refine wp_seq_k (fun K26 hK26 => ?_)
                refine e_region (fun R hR => ?_)
                refine e_op H rfl rfl (by decide) (x_indexAddr H rfl rfl rfl (i_sl (m := i) Try.underlying37 Try.sizeOf22 rfl (by omega))) ?_
                clear H a; intro a H
                refine e_op H rfl rfl (by decide) (x_load H rfl rfl (l_cell Try.isAgg22 (hcl))) ?_
                clear H a; intro a H
                refine e_op H rfl rfl (by decide) (x_assign H rfl rfl) ?_
                clear H a; intro a H
                refine e_nil (hR.out _ _ ?_)
                clear hR R
                refine hK26 _ _ ?_
                clear hK26 K26
                refine wp_seq_k (fun K27 hK27 => ?_)
                refine e_region (fun R hR => ?_)
                refine e_op H rfl rfl (by decide) (x_move H rfl rfl) ?_
                clear H a; intro a H
                refine e_op H rfl rfl (by decide) (x_nilCheck H rfl rfl) ?_
                clear H a; intro a H
                refine e_op H rfl rfl (by decide) (x_fieldAddr H rfl rfl (fa158_1 _ _)) ?_
                clear H a; intro a H
                refine e_op H rfl rfl (by decide) (x_load H rfl rfl (l_cell Try.isAgg65 (D.blk.at_ (i := 1) rfl))) ?_
                clear H a; intro a H
                refine e_op H rfl rfl (by decide) (x_move H rfl rfl) ?_
                clear H a; intro a H
                refine e_callq H rfl rfl (by decide) rfl rfl (Try.call56 _) (in_play D KY (by omega) (by omega) (i := k) hkc hOp.bs (ow_cap hOp) (ow_le hOp)) ?_
                clear H a
                rintro e wn ⟨rfl, y2, r2, D2, K2, G2, FY, hwy⟩
                have OZ2 := OZ.rcv D.rv FY hwy
                have E2 := FY.ext E (own_ge D)
                refine ⟨_, rfl, fun a H => ?_⟩
                refine e_op H rfl rfl (by decide) (x_binI H rfl rfl rfl (b_neq (b := false) (rfl))) ?_
                clear H a; intro a H
                refine e_nil (hR.out _ _ ?_)
                clear hR R
                refine hK27 _ _ ?_
                clear hK27 K27
                refine c_false H rfl ?_
                refine wp_skip ?_
                refine hK25 _ _ ?_
                clear hK25 K25
                refine e_region (fun R hR => ?_)
                refine e_op H rfl rfl (by decide) (x_binI H rfl rfl rfl (b_add (z := ((i + 1 : Nat) : Int)) (by rw [IntKind.wrap_i64]; omega))) ?_
                clear H a; intro a H
                refine e_op H rfl rfl (by decide) (x_move H rfl rfl) ?_
                clear H a; intro a H
                refine e_nil (hR.out _ _ ?_)
                clear hR R
                rw [← hza] at H OZ2
                have G2' : ∀ q, gb r2.has q = (gb ry.has q || decide (q = k)) := G2
                refine ⟨zs.length - (i + 1), by omega, i + 1, y2, r2, by omega, rfl, H.sub ⟨rfl, rfl, rfl, rfl, rfl, rfl, rfl, trivial⟩, D2, K2, fun q hq => by rw [G2', GM q hq]; rfl, fun q hq => ?_, OZ2, E2⟩
                rw [List.take_add_one, hk] at hq
                rcases List.mem_append.1 hq with hq | hq
                · rw [G2', GU q hq]; rfl
                · rw [G2']
                  have : q = k := by simpa using hq
                  rw [decide_eq_true this, Bool.or_true]
              · skip
                rw [hie] at GU
                clear OZ
                refine wp_seq_k (fun K28 hK28 => ?_)
                refine e_region (fun R hR => ?_)
                refine e_op H rfl rfl (by decide) (x_binI H rfl rfl rfl (b_lss (b := false) (dec_f (by omega)))) ?_
                clear H a; intro a H
                refine e_nil (hR.out _ _ ?_)
                clear hR R
                refine hK28 _ _ ?_
                clear hK28 K28
                refine wp_seq_k (fun K29 hK29 => ?_)
                refine c_false H rfl ?_
                refine wp_exit ?_
                refine t_exit ?_
                refine t_exit ?_
                refine b_hit ?_
                clear hK29 K29
                refine hK21 _ _ ?_
                clear hK21 K21
                refine wp_seq_k (fun K30 hK30 => ?_)
                obtain ⟨wd, hwd⟩ : ∃ x_, x_ = w.drew := ⟨_, rfl⟩
                have Ewd : Ext w wd := by rw [hwd]; exact (Ext.refl _).dr
                replace D := D.ext Ewd
                replace E := E.tr Ewd
                have HS : Blk wd gw 158 (wCells gs gr V) := D.blk
                have hidy : ry.id = x := KY.id_
                have hacy := ackP_len ry.id ry.has (by omega)
                have hayl : (ackP ry.id ry.has).length ≤ 1000 := by unfold ackP; rw [tseal_len]; omega
                refine g_start (fun w' => Blk w' gw 158 (wCells gs gr V)) (by kernel_rfl) (fun R hR => ?_)
                rw [← hwd]
                refine g_take 0 H rfl (wanted_none rfl) rfl (by decide) (by kernel_rfl) (by kernel_rfl) (by kernel_rfl) HS (fun w' hSw => (x_move H rfl rfl)) ?_
                clear H a; intro a H
                refine g_take 1 H rfl (wanted_none rfl) rfl (by decide) (by kernel_rfl) (by kernel_rfl) (by kernel_rfl) HS (fun w' hSw => (x_nilCheck H rfl rfl)) ?_
                clear H a; intro a H
                refine g_take 2 H rfl (wanted_none rfl) rfl (by decide) (by kernel_rfl) (by kernel_rfl) (by kernel_rfl) HS (fun w' hSw => (x_fieldAddr H rfl rfl (fa158_0 _ _))) ?_
                clear H a; intro a H
                refine g_take 3 H rfl (wanted_none rfl) rfl (by decide) (by kernel_rfl) (by kernel_rfl) (by kernel_rfl) HS (fun w' hSw => (x_load H rfl rfl (l_cell Try.isAgg64 (hSw.at_ (i := 0) rfl)))) ?_
                clear H a; intro a H
                refine g_take 4 H rfl (wanted_none rfl) rfl (by decide) (by kernel_rfl) (by kernel_rfl) (by kernel_rfl) HS (fun w' hSw => (x_move H rfl rfl)) ?_
                clear H a; intro a H
                refine g_take 5 H rfl (wanted_none rfl) rfl (by decide) (by kernel_rfl) (by kernel_rfl) (by kernel_rfl) HS (fun w' hSw => (x_nilCheck H rfl rfl)) ?_
                clear H a; intro a H
                refine g_take 6 H rfl (wanted_none rfl) rfl (by decide) (by kernel_rfl) (by kernel_rfl) (by kernel_rfl) HS (fun w' hSw => (x_fieldAddr H rfl rfl (fa158_1 _ _))) ?_
                clear H a; intro a H
                refine g_take 7 H rfl (wanted_none rfl) rfl (by decide) (by kernel_rfl) (by kernel_rfl) (by kernel_rfl) HS (fun w' hSw => (x_load H rfl rfl (l_cell Try.isAgg65 (hSw.at_ (i := 1) rfl)))) ?_
                clear H a; intro a H
                refine g_call 8 H rfl (by kernel_rfl) (wanted_none rfl) rfl (by decide) rfl rfl (Try.call57 _) (ack_any w1.heap.size gr y1 ry wd D.rv) ?_
                clear H a
                rintro e we ⟨ka, kc, rfl, OK, Ek⟩
                replace D := D.ext Ek
                replace E := E.tr Ek
                have HSn : Blk we gw 158 (wCells gs gr V) := D.blk
                refine ⟨_, rfl, HSn, fun a H => ?_⟩
                replace HS := HSn
                clear HSn
                refine g_call 9 H rfl (by kernel_rfl) (wanted_none rfl) rfl (by decide) rfl rfl (Try.call53 _) (sack_any w1.heap.size gs V.vs p.s ka _ kc (ackP ry.id ry.has) we D.sn OK.bs (ow_cap OK) (ow_le OK) (by omega)) ?_
                clear H a
                rintro e wf ⟨rfl, Sa, Fa, _⟩
                obtain ⟨s3, hs3⟩ : ∃ s, s = (p.s.ack (ackP ry.id ry.has)).2 := ⟨_, rfl⟩
                have hput := (Snd.ack_put p.s ry.id ry.has (by omega) KY.size KE.alen).2.2 (by rw [KY.id_, KE.sid]) (fun k hk => KY.beyond k (by rw [← KE.sfile]; exact hk))
                rw [← hs3] at Sa hput
                obtain ⟨g1, g2, g3', g4, g5⟩ := hput
                rw [g1]
                have D3 := D.snd Fa Sa g2 g3'
                have E3 : Ext w1 wf := Fa.ext E (by intro x hx; simp only [List.mem_singleton] at hx; rw [hx]; exact D.sn.low)
                have hsf3 : s3.file = fb := g3'.trans KE.sfile
                have hrd : (unm (gb s3.acked) (chunksT fb.length)).length ≤ (unm (gb p.s.acked) (chunksT fb.length)).length - min 8 (unm (gb p.s.acked) (chunksT fb.length)).length := by
                  rw [unm_congr (fun k _ => g5 k)]
                  exact left_round _ _ _ (fun k hk => GU k (by rw [List.take_of_length_le (by omega), hus]; exact hk))
                have HSn : Blk wf gw 158 (wCells gs gr V) := D3.blk
                refine ⟨_, rfl, HSn, fun a H => ?_⟩
                replace HS := HSn
                clear HSn
                refine g_take 10 H rfl (wanted_none rfl) rfl (by decide) (by kernel_rfl) (by kernel_rfl) (by kernel_rfl) HS (fun w' hSw => (x_binI H rfl rfl rfl (b_neq (b := false) (rfl)))) ?_
                clear H a; intro a H
                refine g_take 11 H rfl (wanted_none rfl) rfl (by decide) (by kernel_rfl) (by kernel_rfl) (by kernel_rfl) HS (fun w' hSw => (x_move H rfl rfl)) ?_
                clear H a; intro a H
                refine g_take 12 H rfl (wanted_true H rfl rfl rfl rfl) rfl (by decide) (by kernel_rfl) (by kernel_rfl) (by kernel_rfl) HS (fun w' hSw => (x_move H rfl rfl)) ?_
                clear H a; intro a H
                refine g_take 13 H rfl (wanted_true H rfl rfl rfl rfl) rfl (by decide) (by kernel_rfl) (by kernel_rfl) (by kernel_rfl) HS (fun w' hSw => (x_nilCheck H rfl rfl)) ?_
                clear H a; intro a H
                refine g_take 14 H rfl (wanted_true H rfl rfl rfl rfl) rfl (by decide) (by kernel_rfl) (by kernel_rfl) (by kernel_rfl) HS (fun w' hSw => (x_fieldAddr H rfl rfl (fa158_0 _ _))) ?_
                clear H a; intro a H
                refine g_take 15 H rfl (wanted_true H rfl rfl rfl rfl) rfl (by decide) (by kernel_rfl) (by kernel_rfl) (by kernel_rfl) HS (fun w' hSw => (x_load H rfl rfl (l_cell Try.isAgg64 (hSw.at_ (i := 0) rfl)))) ?_
                clear H a; intro a H
                refine g_take 17 H rfl (wanted_true H rfl rfl rfl rfl) rfl (by decide) (by kernel_rfl) (by kernel_rfl) (by kernel_rfl) HS (fun w' hSw => (x_move H rfl rfl)) ?_
                clear H a; intro a H
                refine g_take 18 H rfl (wanted_true H rfl rfl rfl rfl) rfl (by decide) (by kernel_rfl) (by kernel_rfl) (by kernel_rfl) HS (fun w' hSw => (x_move H rfl rfl)) ?_
                clear H a; intro a H
                refine g_take 19 H rfl (wanted_true H rfl rfl rfl rfl) rfl (by decide) (by kernel_rfl) (by kernel_rfl) (by kernel_rfl) HS (fun w' hSw => (x_builtin H rfl rfl (fun cs => len_sl Try.underlying37))) ?_
                clear H a; intro a H
                refine g_take 20 H rfl (wanted_true H rfl rfl rfl rfl) rfl (by decide) (by kernel_rfl) (by kernel_rfl) (by kernel_rfl) HS (fun w' hSw => (x_binI H rfl rfl rfl (b_sub (z := (((unm (gb p.s.acked) (chunksT fb.length)).length - zs.length : Nat) : Int)) (by rw [IntKind.wrap_i64]; omega)))) ?_
                clear H a; intro a H
                refine g_call 16 H rfl (by kernel_rfl) (wanted_true H rfl rfl rfl rfl) rfl (by decide) rfl rfl (Try.call55 _) (left_any w1.heap.size gs V.vs s3 wf D3.sn) ?_
                clear H a
                rintro e wy ⟨rfl, hwy⟩
                rw [hwy, hsf3]
                refine ⟨_, rfl, HS, fun a H => ?_⟩
                refine g_take 21 H rfl (wanted_true H rfl rfl rfl rfl) rfl (by decide) (by kernel_rfl) (by kernel_rfl) (by kernel_rfl) HS (fun w' hSw => (x_binI H rfl rfl rfl (b_gtr (b := false) (dec_f (by omega))))) ?_
                clear H a; intro a H
                refine g_take 22 H rfl (wanted_none rfl) rfl (by decide) (by kernel_rfl) (by kernel_rfl) (by kernel_rfl) HS (fun w' hSw => (x_pickF H rfl rfl rfl)) ?_
                clear H a; intro a H
                refine g_take 23 H rfl (wanted_none rfl) rfl (by decide) (by kernel_rfl) (by kernel_rfl) (by kernel_rfl) HS (fun w' hSw => (x_move H rfl rfl)) ?_
                clear H a; intro a H
                refine g_take 24 H rfl (wanted_true H rfl rfl rfl rfl) rfl (by decide) (by kernel_rfl) (by kernel_rfl) (by kernel_rfl) HS (fun w' hSw => (x_move H rfl rfl)) ?_
                clear H a; intro a H
                refine g_take 25 H rfl (wanted_true H rfl rfl rfl rfl) rfl (by decide) (by kernel_rfl) (by kernel_rfl) (by kernel_rfl) HS (fun w' hSw => (x_builtin H rfl rfl (fun cs => len_sl Try.underlying37))) ?_
                clear H a; intro a H
                refine g_take 26 H rfl (wanted_true H rfl rfl rfl rfl) rfl (by decide) (by kernel_rfl) (by kernel_rfl) (by kernel_rfl) HS (fun w' hSw => (x_move H rfl rfl)) ?_
                clear H a; intro a H
                refine g_take 27 H rfl (wanted_true H rfl rfl rfl rfl) rfl (by decide) (by kernel_rfl) (by kernel_rfl) (by kernel_rfl) HS (fun w' hSw => (x_builtin H rfl rfl (fun cs => bi_min (z := ((min 8 (unm (gb p.s.acked) (chunksT fb.length)).length : Nat) : Int)) (by split <;> omega)))) ?_
                clear H a; intro a H
                refine g_take 28 H rfl (wanted_true H rfl rfl rfl rfl) rfl (by decide) (by kernel_rfl) (by kernel_rfl) (by kernel_rfl) HS (fun w' hSw => (x_binI H rfl rfl rfl (b_neq (b := false) (bne_f (by omega))))) ?_
                clear H a; intro a H
                refine g_take 29 H rfl (wanted_none rfl) rfl (by decide) (by kernel_rfl) (by kernel_rfl) (by kernel_rfl) HS (fun w' hSw => (x_pickF H rfl rfl rfl)) ?_
                clear H a; intro a H
                refine g_done (by kernel_rfl) (hR.out _ _ ?_)
                clear hR R
                refine hK30 _ _ ?_
                clear hK30 K30
                refine c_false H rfl ?_
                refine wp_skip ?_
                refine hK18 _ _ ?_
                clear hK18 K18
                refine e_region (fun R hR => ?_)
                refine e_op H rfl rfl (by decide) (x_binI H rfl rfl rfl (b_add (z := ((j + 1 : Nat) : Int)) (by rw [IntKind.wrap_i64]; omega))) ?_
                clear H a; intro a H
                refine e_op H rfl rfl (by decide) (x_move H rfl rfl) ?_
                clear H a; intro a H
                refine e_nil (hR.out _ _ ?_)
                clear hR R
                refine ⟨40 - (j + 1), by omega, j + 1, { V with vr := y1 }, { p with r := ry, s := s3 }, by omega, rfl, H.sub ⟨rfl, rfl, trivial⟩, D3, ⟨g2.trans KE.sid, hsf3, g4, KY, fun k hk => ?_⟩, (by show (unm (gb s3.acked) (chunksT fb.length)).length ≤ _; omega), E3⟩
                have hk2 : gb s3.acked k = true := hk
                rw [g5, Bool.or_eq_true] at hk2
                rcases hk2 with hk2 | hk2
                · exact GM k (KE.sub k hk2)
                · exact hk2
          · skip
            have hz0 : (unm (gb p.s.acked) (chunksT fb.length)).length = 0 := by omega
            obtain ⟨hdn, hdt, hpx⟩ := KE.fin hz0
            have hfd : (if p.r.done then p.r.data else []) = fb := by rw [if_pos hdn, hdt]
            obtain ⟨la, lc, hvl, LO⟩ := D.fl
            rw [KE.sfile] at hvl LO
            refine wp_seq_k (fun K31 hK31 => ?_)
            refine e_region (fun R hR => ?_)
            refine e_op H rfl rfl (by decide) (x_binI H rfl rfl rfl (b_lss (b := false) (dec_f (by omega)))) ?_
            clear H a; intro a H
            refine e_nil (hR.out _ _ ?_)
            clear hR R
            refine hK31 _ _ ?_
            clear hK31 K31
            refine wp_seq_k (fun K32 hK32 => ?_)
            refine c_false H rfl ?_
            refine wp_exit ?_
            refine t_exit ?_
            refine t_exit ?_
            refine b_hit ?_
            clear hK32 K32
            refine hK14 _ _ ?_
            clear hK14 K14
            refine wp_seq_k (fun K33 hK33 => ?_)
            refine e_region (fun R hR => ?_)
            refine e_op H rfl rfl (by decide) (x_move H rfl rfl) ?_
            clear H a; intro a H
            refine e_op H rfl rfl (by decide) (x_nilCheck H rfl rfl) ?_
            clear H a; intro a H
            refine e_op H rfl rfl (by decide) (x_fieldAddr H rfl rfl (fa158_1 _ _)) ?_
            clear H a; intro a H
            refine e_op H rfl rfl (by decide) (x_load H rfl rfl (l_cell Try.isAgg65 (D.blk.at_ (i := 1) rfl))) ?_
            clear H a; intro a H
            refine e_callq H rfl rfl (by decide) rfl rfl (Try.call50 _) (file_rcv w1.heap.size gr V.vr p.r w D.rv) ?_
            clear H a
            rintro e wf ⟨qa, qc, rfl, OQ, Ef⟩
            rw [hfd] at OQ
            replace D := D.ext Ef
            replace LO := LO.ext_ Ef
            replace E := E.tr Ef
            refine ⟨_, rfl, fun a H => ?_⟩
            rw [hfd, hdn] at H
            refine e_op H rfl rfl (by decide) (x_move H rfl rfl) ?_
            clear H a; intro a H
            refine e_op H rfl rfl (by decide) (x_extract H rfl rfl (v := .slice qa fb.length qc) rfl) ?_
            clear H a; intro a H
            refine e_op H rfl rfl (by decide) (x_extract H rfl rfl (v := .bool true) rfl) ?_
            clear H a; intro a H
            refine e_op H rfl rfl (by decide) (x_assign H rfl rfl) ?_
            clear H a; intro a H
            refine e_op H rfl rfl (by decide) (x_assign H rfl rfl) ?_
            clear H a; intro a H
            refine e_nil (hR.out _ _ ?_)
            clear hR R
            refine hK33 _ _ ?_
            clear hK33 K33
            refine wp_seq_k (fun K34 hK34 => ?_)
            obtain ⟨wd, hwd⟩ : ∃ x_, x_ = wf.drew := ⟨_, rfl⟩
            have Ewd : Ext wf wd := by rw [hwd]; exact (Ext.refl _).dr
            replace D := D.ext Ewd
            replace E := E.tr Ewd
            replace OQ := OQ.ext_ Ewd
            replace LO := LO.ext_ Ewd
            have HS : Blk wd gw 158 (wCells gs gr V) := D.blk
            refine g_start (fun w' => Blk w' gw 158 (wCells gs gr V)) (by kernel_rfl) (fun R hR => ?_)
            rw [← hwd]
            refine g_take 0 H rfl (wanted_none rfl) rfl (by decide) (by kernel_rfl) (by kernel_rfl) (by kernel_rfl) HS (fun w' hSw => (x_move H rfl rfl)) ?_
            clear H a; intro a H
            refine g_take 1 H rfl (wanted_none rfl) rfl (by decide) (by kernel_rfl) (by kernel_rfl) (by kernel_rfl) HS (fun w' hSw => (x_move H rfl rfl)) ?_
            clear H a; intro a H
            refine g_take 2 H rfl (wanted_true H rfl rfl rfl rfl) rfl (by decide) (by kernel_rfl) (by kernel_rfl) (by kernel_rfl) HS (fun w' hSw => (x_move H rfl rfl)) ?_
            clear H a; intro a H
            refine g_take 3 H rfl (wanted_true H rfl rfl rfl rfl) rfl (by decide) (by kernel_rfl) (by kernel_rfl) (by kernel_rfl) HS (fun w' hSw => (x_move H rfl rfl)) ?_
            clear H a; intro a H
            refine g_take 4 H rfl (wanted_true H rfl rfl rfl rfl) rfl (by decide) (by kernel_rfl) (by kernel_rfl) (by kernel_rfl) HS (fun w' hSw => (x_nilCheck H rfl rfl)) ?_
            clear H a; intro a H
            refine g_take 5 H rfl (wanted_true H rfl rfl rfl rfl) rfl (by decide) (by kernel_rfl) (by kernel_rfl) (by kernel_rfl) HS (fun w' hSw => (x_fieldAddr H rfl rfl (fa158_3 _ _))) ?_
            clear H a; intro a H
            refine g_take 6 H rfl (wanted_true H rfl rfl rfl rfl) rfl (by decide) (by kernel_rfl) (by kernel_rfl) (by kernel_rfl) HS (fun w' hSw => (x_load H rfl rfl (l_cell (v := .slice la fb.length lc) Try.isAgg22 (hSw.at_ (i := 4) (by rw [← hvl]; rfl))))) ?_
            clear H a; intro a H
            refine g_call 7 H rfl (by kernel_rfl) (wanted_true H rfl rfl rfl rfl) rfl (by decide) rfl rfl (Try.call45 _) (same1_any qa fb.length qc la fb.length lc fb fb wd OQ.bs LO.bs (by omega)) ?_
            clear H a
            rintro e wa ⟨rfl, Ea⟩
            replace D := D.ext Ea
            replace E := E.tr Ea
            replace LO := LO.ext_ Ea
            have HSn : Blk wa gw 158 (wCells gs gr V) := D.blk
            refine ⟨_, rfl, HSn, fun a H => ?_⟩
            replace HS := HSn
            clear HSn
            rw [decide_eq_true rfl] at H
            refine g_take 8 H rfl (wanted_none rfl) rfl (by decide) (by kernel_rfl) (by kernel_rfl) (by kernel_rfl) HS (fun w' hSw => (x_pickT H rfl rfl rfl)) ?_
            clear H a; intro a H
            refine g_take 9 H rfl (wanted_none rfl) rfl (by decide) (by kernel_rfl) (by kernel_rfl) (by kernel_rfl) HS (fun w' hSw => (x_move H rfl rfl)) ?_
            clear H a; intro a H
            refine g_take 10 H rfl (wanted_true H rfl rfl rfl rfl) rfl (by decide) (by kernel_rfl) (by kernel_rfl) (by kernel_rfl) HS (fun w' hSw => (x_move H rfl rfl)) ?_
            clear H a; intro a H
            refine g_take 11 H rfl (wanted_true H rfl rfl rfl rfl) rfl (by decide) (by kernel_rfl) (by kernel_rfl) (by kernel_rfl) HS (fun w' hSw => (x_nilCheck H rfl rfl)) ?_
            clear H a; intro a H
            refine g_take 12 H rfl (wanted_true H rfl rfl rfl rfl) rfl (by decide) (by kernel_rfl) (by kernel_rfl) (by kernel_rfl) HS (fun w' hSw => (x_fieldAddr H rfl rfl (fa158_1 _ _))) ?_
            clear H a; intro a H
            refine g_take 13 H rfl (wanted_true H rfl rfl rfl rfl) rfl (by decide) (by kernel_rfl) (by kernel_rfl) (by kernel_rfl) HS (fun w' hSw => (x_load H rfl rfl (l_cell Try.isAgg65 (hSw.at_ (i := 1) rfl)))) ?_
            clear H a; intro a H
            refine g_take 15 H rfl (wanted_true H rfl rfl rfl rfl) rfl (by decide) (by kernel_rfl) (by kernel_rfl) (by kernel_rfl) HS (fun w' hSw => (x_move H rfl rfl)) ?_
            clear H a; intro a H
            refine g_take 16 H rfl (wanted_true H rfl rfl rfl rfl) rfl (by decide) (by kernel_rfl) (by kernel_rfl) (by kernel_rfl) HS (fun w' hSw => (x_nilCheck H rfl rfl)) ?_
            clear H a; intro a H
            refine g_take 17 H rfl (wanted_true H rfl rfl rfl rfl) rfl (by decide) (by kernel_rfl) (by kernel_rfl) (by kernel_rfl) HS (fun w' hSw => (x_fieldAddr H rfl rfl (fa158_3 _ _))) ?_
            clear H a; intro a H
            refine g_take 18 H rfl (wanted_true H rfl rfl rfl rfl) rfl (by decide) (by kernel_rfl) (by kernel_rfl) (by kernel_rfl) HS (fun w' hSw => (x_load H rfl rfl (l_cell (v := .slice la fb.length lc) Try.isAgg22 (hSw.at_ (i := 4) (by rw [← hvl]; rfl))))) ?_
            clear H a; intro a H
            refine g_call 14 H rfl (by kernel_rfl) (wanted_true H rfl rfl rfl rfl) rfl (by decide) rfl rfl (Try.call58 _) (prefix_any w1.heap.size gr V.vr p.r wa D.rv) ?_
            clear H a
            rintro e wb ⟨pa, pc, rfl, OP, Eb⟩
            rw [hpx] at OP
            replace D := D.ext Eb
            replace E := E.tr Eb
            replace LO := LO.ext_ Eb
            have HSn : Blk wb gw 158 (wCells gs gr V) := D.blk
            refine ⟨_, rfl, HSn, fun a H => ?_⟩
            replace HS := HSn
            clear HSn
            rw [hpx] at H
            refine g_call 19 H rfl (by kernel_rfl) (wanted_true H rfl rfl rfl rfl) rfl (by decide) rfl rfl (Try.call45 _) (same1_any pa fb.length pc la fb.length lc fb fb wb OP.bs LO.bs (by omega)) ?_
            clear H a
            rintro e wc ⟨rfl, Ec⟩
            replace D := D.ext Ec
            replace E := E.tr Ec
            skip
            have HSn : Blk wc gw 158 (wCells gs gr V) := D.blk
            refine ⟨_, rfl, HSn, fun a H => ?_⟩
            replace HS := HSn
            clear HSn
            rw [decide_eq_true rfl] at H
            refine g_take 20 H rfl (wanted_none rfl) rfl (by decide) (by kernel_rfl) (by kernel_rfl) (by kernel_rfl) HS (fun w' hSw => (x_pickT H rfl rfl rfl)) ?_
            clear H a; intro a H
            refine g_take 21 H rfl (wanted_none rfl) rfl (by decide) (by kernel_rfl) (by kernel_rfl) (by kernel_rfl) HS (fun w' hSw => (x_move H rfl rfl)) ?_
            clear H a; intro a H
            refine g_take 22 H rfl (wanted_true H rfl rfl rfl rfl) rfl (by decide) (by kernel_rfl) (by kernel_rfl) (by kernel_rfl) HS (fun w' hSw => (x_move H rfl rfl)) ?_
            clear H a; intro a H
            refine g_take 23 H rfl (wanted_true H rfl rfl rfl rfl) rfl (by decide) (by kernel_rfl) (by kernel_rfl) (by kernel_rfl) HS (fun w' hSw => (x_nilCheck H rfl rfl)) ?_
            clear H a; intro a H
            refine g_take 24 H rfl (wanted_true H rfl rfl rfl rfl) rfl (by decide) (by kernel_rfl) (by kernel_rfl) (by kernel_rfl) HS (fun w' hSw => (x_fieldAddr H rfl rfl (fa158_0 _ _))) ?_
            clear H a; intro a H
            refine g_take 25 H rfl (wanted_true H rfl rfl rfl rfl) rfl (by decide) (by kernel_rfl) (by kernel_rfl) (by kernel_rfl) HS (fun w' hSw => (x_load H rfl rfl (l_cell Try.isAgg64 (hSw.at_ (i := 0) rfl)))) ?_
            clear H a; intro a H
            refine g_call 26 H rfl (by kernel_rfl) (wanted_true H rfl rfl rfl rfl) rfl (by decide) rfl rfl (Try.call54 _) (done_any w1.heap.size gs V.vs p.s wc D.sn) ?_
            clear H a
            rintro e wy ⟨rfl, hwy⟩
            rw [hwy, KE.sfile, decide_eq_true hz0]
            refine ⟨_, rfl, HS, fun a H => ?_⟩
            refine g_take 27 H rfl (wanted_none rfl) rfl (by decide) (by kernel_rfl) (by kernel_rfl) (by kernel_rfl) HS (fun w' hSw => (x_pickT H rfl rfl rfl)) ?_
            clear H a; intro a H
            refine g_take 28 H rfl (wanted_none rfl) rfl (by decide) (by kernel_rfl) (by kernel_rfl) (by kernel_rfl) HS (fun w' hSw => (x_move H rfl rfl)) ?_
            clear H a; intro a H
            refine g_take 29 H rfl (wanted_true H rfl rfl rfl rfl) rfl (by decide) (by kernel_rfl) (by kernel_rfl) (by kernel_rfl) HS (fun w' hSw => (x_move H rfl rfl)) ?_
            clear H a; intro a H
            refine g_take 30 H rfl (wanted_true H rfl rfl rfl rfl) rfl (by decide) (by kernel_rfl) (by kernel_rfl) (by kernel_rfl) HS (fun w' hSw => (x_nilCheck H rfl rfl)) ?_
            clear H a; intro a H
            refine g_take 31 H rfl (wanted_true H rfl rfl rfl rfl) rfl (by decide) (by kernel_rfl) (by kernel_rfl) (by kernel_rfl) HS (fun w' hSw => (x_fieldAddr H rfl rfl (fa158_0 _ _))) ?_
            clear H a; intro a H
            refine g_take 32 H rfl (wanted_true H rfl rfl rfl rfl) rfl (by decide) (by kernel_rfl) (by kernel_rfl) (by kernel_rfl) HS (fun w' hSw => (x_load H rfl rfl (l_cell Try.isAgg64 (hSw.at_ (i := 0) rfl)))) ?_
            clear H a; intro a H
            refine g_call 33 H rfl (by kernel_rfl) (wanted_true H rfl rfl rfl rfl) rfl (by decide) rfl rfl (Try.call55 _) (left_any w1.heap.size gs V.vs p.s wc D.sn) ?_
            clear H a
            rintro e wy ⟨rfl, hwy⟩
            rw [hwy, KE.sfile, hz0]
            refine ⟨_, rfl, HS, fun a H => ?_⟩
            refine g_take 34 H rfl (wanted_true H rfl rfl rfl rfl) rfl (by decide) (by kernel_rfl) (by kernel_rfl) (by kernel_rfl) HS (fun w' hSw => (x_binI H rfl rfl rfl (b_eql (b := true) (rfl)))) ?_
            clear H a; intro a H
            refine g_take 35 H rfl (wanted_none rfl) rfl (by decide) (by kernel_rfl) (by kernel_rfl) (by kernel_rfl) HS (fun w' hSw => (x_pickT H rfl rfl rfl)) ?_
            clear H a; intro a H
            refine g_take 36 H rfl (wanted_none rfl) rfl (by decide) (by kernel_rfl) (by kernel_rfl) (by kernel_rfl) HS (fun w' hSw => (x_move H rfl rfl)) ?_
            clear H a; intro a H
            refine g_take 37 H rfl (wanted_true H rfl rfl rfl rfl) rfl (by decide) (by kernel_rfl) (by kernel_rfl) (by kernel_rfl) HS (fun w' hSw => (x_move H rfl rfl)) ?_
            clear H a; intro a H
            refine g_take 38 H rfl (wanted_true H rfl rfl rfl rfl) rfl (by decide) (by kernel_rfl) (by kernel_rfl) (by kernel_rfl) HS (fun w' hSw => (x_nilCheck H rfl rfl)) ?_
            clear H a; intro a H
            refine g_take 39 H rfl (wanted_true H rfl rfl rfl rfl) rfl (by decide) (by kernel_rfl) (by kernel_rfl) (by kernel_rfl) HS (fun w' hSw => (x_fieldAddr H rfl rfl (fa158_0 _ _))) ?_
            clear H a; intro a H
            refine g_take 40 H rfl (wanted_true H rfl rfl rfl rfl) rfl (by decide) (by kernel_rfl) (by kernel_rfl) (by kernel_rfl) HS (fun w' hSw => (x_load H rfl rfl (l_cell Try.isAgg64 (hSw.at_ (i := 0) rfl)))) ?_
            clear H a; intro a H
            refine g_call 41 H rfl (by kernel_rfl) (wanted_true H rfl rfl rfl rfl) rfl (by decide) rfl rfl (Try.call52 _) (out_any w1.heap.size gs V.vs p.s wc D.sn) ?_
            clear H a
            rintro e wo ⟨vz, zs, rfl, RZ, EZ, Eo⟩
            have hz8 : zs.length = 0 := by
              rw [EZ.len, List.length_map, KE.sfile, List.length_take, hz0]; rfl
            obtain ⟨za, zc, rfl, _⟩ := RZ.shape
            replace D := D.ext Eo
            replace E := E.tr Eo
            skip
            have HSn : Blk wo gw 158 (wCells gs gr V) := D.blk
            refine ⟨_, rfl, HSn, fun a H => ?_⟩
            replace HS := HSn
            clear HSn
            refine g_take 42 H rfl (wanted_true H rfl rfl rfl rfl) rfl (by decide) (by kernel_rfl) (by kernel_rfl) (by kernel_rfl) HS (fun w' hSw => (x_builtin H rfl rfl (fun cs => len_sl Try.underlying37))) ?_
            clear H a; intro a H
            refine g_take 43 H rfl (wanted_true H rfl rfl rfl rfl) rfl (by decide) (by kernel_rfl) (by kernel_rfl) (by kernel_rfl) HS (fun w' hSw => (x_binI H rfl rfl rfl (b_eql (b := true) (beq_t (by rw [hz8]; rfl))))) ?_
            clear H a; intro a H
            refine g_take 44 H rfl (wanted_none rfl) rfl (by decide) (by kernel_rfl) (by kernel_rfl) (by kernel_rfl) HS (fun w' hSw => (x_pickT H rfl rfl rfl)) ?_
            clear H a; intro a H
            refine g_take 45 H rfl (wanted_none rfl) rfl (by decide) (by kernel_rfl) (by kernel_rfl) (by kernel_rfl) HS (fun w' hSw => (x_assign H rfl rfl)) ?_
            clear H a; intro a H
            refine g_done (by kernel_rfl) (hR.out _ _ ?_)
            clear hR R
            refine hK34 _ _ ?_
            clear hK34 K34
            refine wp_ret ?_
            exact ret1 H rfl rfl ⟨rfl, E01.tr E⟩
      · skip
        rcases (show k = nm ∨ (k < nm ∧ ¬ k < 40) by omega) with hkn | ⟨hkn, hk40⟩
        · skip
          skip
          refine e_region (fun R hR => ?_)
          refine e_op H rfl rfl (by decide) (x_move H rfl rfl) ?_
          clear H a; intro a H
          refine e_op H rfl rfl (by decide) (x_move H rfl rfl) ?_
          clear H a; intro a H
          refine e_op H rfl rfl (by decide) (x_builtin H rfl rfl (fun cs => len_sl Try.underlying165)) ?_
          clear H a; intro a H
          refine e_op H rfl rfl (by decide) (x_binI H rfl rfl rfl (b_lss (b := false) (dec_f (by omega)))) ?_
          clear H a; intro a H
          refine e_op H rfl rfl (by decide) (x_move H rfl rfl) ?_
          clear H a; intro a H
          refine e_skip H (wanted_false H rfl rfl rfl rfl) rfl (by decide) ?_
          clear H a; intro a H
          refine e_skip H (wanted_false H rfl rfl rfl rfl) rfl (by decide) ?_
          clear H a; intro a H
          refine e_op H rfl rfl (by decide) (x_pickF H rfl rfl rfl) ?_
          clear H a; intro a H
          refine e_nil (hR.out _ _ ?_)
          clear hR R
          exact ⟨rfl, H.sub ⟨rfl, rfl, trivial⟩, rfl⟩
        · skip
          skip
          refine e_region (fun R hR => ?_)
          refine e_op H rfl rfl (by decide) (x_move H rfl rfl) ?_
          clear H a; intro a H
          refine e_op H rfl rfl (by decide) (x_move H rfl rfl) ?_
          clear H a; intro a H
          refine e_op H rfl rfl (by decide) (x_builtin H rfl rfl (fun cs => len_sl Try.underlying165)) ?_
          clear H a; intro a H
          refine e_op H rfl rfl (by decide) (x_binI H rfl rfl rfl (b_lss (b := true) (dec_t (by omega)))) ?_
          clear H a; intro a H
          refine e_op H rfl rfl (by decide) (x_move H rfl rfl) ?_
          clear H a; intro a H
          refine e_opg H (wanted_true H rfl rfl rfl rfl) rfl (by decide) (x_move H rfl rfl) ?_
          clear H a; intro a H
          refine e_opg H (wanted_true H rfl rfl rfl rfl) rfl (by decide) (x_binI H rfl rfl rfl (b_lss (b := false) (dec_f (by omega)))) ?_
          clear H a; intro a H
          refine e_op H rfl rfl (by decide) (x_pickT H rfl rfl rfl) ?_
          clear H a; intro a H
          refine e_nil (hR.out _ _ ?_)
          clear hR R
          exact ⟨rfl, H.sub ⟨rfl, rfl, trivial⟩, rfl⟩
end Go.Proofs.Ytknllmcpogoeoaa
