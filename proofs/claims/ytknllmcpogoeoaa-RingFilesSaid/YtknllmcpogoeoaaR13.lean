/- rootcauselaw26.awake, walked. -/
import Derived.Test.YtknllmcpogoeoaaR12
namespace Go.Proofs.Ytknllmcpogoeoaa
open Go.RowKit
set_option linter.unusedVariables false
set_option linter.unusedSimpArgs false
set_option maxRecDepth 100000
theorem bs91 (z : Int) (w : World) : (Instr.buildSlice 91 1 #[(0, .int .i64 z)]).run Try.prog w = .ok (.slice (some ⟨w.heap.size, 0, none⟩) 1 1) (w.alloc (.cells #[.int .i64 z] 2)) := by kernel_rfl
theorem Zw.one (w : World) (z : Int) (B : Nat) (hB : B ≤ w.heap.size) : Zw (w.alloc (.cells #[.int .i64 z] 2)) B (.slice (some ⟨w.heap.size, 0, none⟩) 1 1) [z] :=
  ⟨⟨rfl, .inr ⟨w.heap.size, 1, #[.int .i64 z], rfl, hB, heap_alloc_new w _, Nat.le_refl _, by unfold maxLen; omega, rfl, rfl⟩⟩, by simp⟩
theorem entR_ok (s : Nat) (hs : s < 18446744073709551616) : (entR s [1]).ok :=
  ⟨by simp [entR], hs, by simp [entR], fun z hz => by have := (List.mem_replicate.1 hz).2; omega, by simp [entR], ⟨by simp [entR], by simp [entR], by simp [entR], by simp [entR], by simp [entR], by simp [entR], by simp [entR], by simp [entR], fun z hz => by
    have : z = 1 := by simpa [entR] using hz
    omega⟩, by simp [entR]⟩
section
variable {w0 w w' : World} {g : Nat} {v : Value} {ps : List (Rcd × Value)} {r : Rg}
theorem putExt (E : Ext w0 w) (R0 : Rn w w0.heap.size g v ps r) (F : Frm (g :: v.ownBlock.toList) w w') : Ext w0 w' :=
  Frm.ext E F (fun x hx => by
    rcases List.mem_cons.1 hx with rfl | hx
    · exact R0.low
    · exact (R0.lst.row.blk x (by simpa using hx)).1)
theorem Rn.ext {B : Nat} (R0 : Rn w B g v ps r) (E : Ext w w') : Rn w' B g v ps r := ⟨R0.blk.ext E, R0.lst.ext E, R0.eq, R0.sum, R0.low, R0.n1, R0.n2, R0.e1, R0.c1⟩
theorem rlen_any {B : Nat} (R0 : Rn w B g v ps r) : Calls Try.prog 87 #[.pointer (some ⟨g, 0, none⟩)] w fun e w' => e = .returned (.int .i64 ((r.list.length : Nat) : Int)) ∧ w' = w := by
  obtain ⟨va, vc, rfl, _⟩ := R0.lst.row.shape
  have h := ringLen_any g _ _ _ _ _ _ _ _ _ w R0.blk
  rwa [show ps.length = r.list.length by rw [← R0.eq, List.length_map]] at h
theorem newRn (cap : Int) (w0 : World) (hc : 1 ≤ cap) (hc2 : cap ≤ 9223372036854775807) (B : Nat) (hB : B ≤ w0.heap.size) : Calls Try.prog 66 #[.int .i64 cap] w0 fun e w' => ∃ g, e = .returned (.tuple #[.pointer (some ⟨g, 0, none⟩), .int .i64 0]) ∧ Rn w' B g (.slice none 0 0) [] ⟨cap, 0, [], false, 0, 0, 0⟩ ∧ Ext w0 w' ∧ g = w0.heap.size := by
  refine (newRing_any cap w0 hc).mono ?_
  rintro e w' ⟨g, rfl, hb, hg, hE⟩
  exact ⟨g, rfl, ⟨hb, Rl.nil _ _, rfl, rfl, by omega, by simp, by simp, by simp, ⟨hc, hc2⟩⟩, hE, hg⟩
end
section
variable {P : Program} {a : Act} {N : Nat} {l : List (Nat × Value)} {w : World} {o : Oper} {v1 v2 : Value}
theorem x_ext0 (H : Has a N l) {x : Operand} (ho : o.op = .extract x 0) (ex : ev l x = some (.tuple #[v1, v2])) : (execOp a.eval o).run P w = .ok (.value v1) w := x_extract H ho ex rfl
theorem x_ext1 (H : Has a N l) {x : Operand} (ho : o.op = .extract x 1) (ex : ev l x = some (.tuple #[v1, v2])) : (execOp a.eval o).run P w = .ok (.value v2) w := x_extract H ho ex rfl
end
def rg0 : Rg := ⟨27, 0, [], false, 0, 0, 0⟩
def rg1 : Rg := (rg0.put (entR 0 [1])).1
def rg2 : Rg := (rg1.put (entR 1 [1])).1
def rg3 : Rg := (rg2.put (entR 2 [1])).1
theorem rg_facts : (rg0.put (entR 0 [1])).2 = (0, 0) ∧ (rg1.put (entR 1 [1])).2 = (0, 0) ∧ (rg2.put (entR 2 [1])).2 = (1, 0) ∧ rg3.lost = 1 ∧ rg3.list.length = 2 ∧ rg3.records.map (fun x => (x.what, x.idx, x.lost)) = [(2, 0, 1), (1, 1, 0), (1, 2, 0)] ∧ rg1.begun = true ∧ rg1.era = 1 ∧ rg1.next = 1 ∧ rg2.begun = true ∧ rg2.era = 1 ∧ rg2.next = 2 := by decide +kernel
theorem ent_facts (s : Nat) : (entR s [1]).good = true ∧ (entR s [1]).what ≠ 3 := ⟨rfl, by simp [entR]⟩
theorem ent_size0 : (entR 0 [1]).size = 13 := by decide +kernel
theorem fa95o_5 (b o : Nat) (w : World) : (Instr.fieldAt 95 (.pointer (some ⟨b, o, none⟩)) 5).run Try.prog w = .ok (.pointer (some ⟨b, o + 28, none⟩)) w := by kernel_rfl
theorem rawake_any (w0 : World) : Calls Try.prog 65 #[] w0 fun e w' => e = .returned (.bool true) ∧ Ext w0 w' := by
  obtain ⟨q1, q2, q3, q4, q5, q6, q7, q8, q9, q10, q11, q12⟩ := rg_facts
  refine calls_has (args := []) Try.func65 rfl Try.ntmps65 (Nat.le_of_ble_eq_true rfl) (fun a H => ?_)
  simp only [argl, Nat.reduceAdd] at H
  refine wp_seq_k (fun K1 hK1 => ?_)
  refine e_region (fun R hR => ?_)
  refine e_op H rfl rfl (by decide) (x_assign H rfl rfl) ?_
  clear H a; intro a H
  refine e_nil (hR.out _ _ ?_)
  clear hR R
  refine hK1 _ _ ?_
  clear hK1 K1
  refine wp_seq_k (fun K2 hK2 => ?_)
  refine e_region (fun R hR => ?_)
  refine e_op H rfl rfl (by decide) (x_buildSlice H rfl rfl (bs91 _ _)) ?_
  clear H a; intro a H
  have Z0 := Zw.one w0 1 0 (Nat.zero_le _)
  have E0a := (Ext.refl w0).al (.cells #[.int .i64 1] 2)
  have Ex := (Ext.refl w0).al (.cells #[.int .i64 1] 2)
  obtain ⟨gz0, hgz0⟩ : ∃ g, g = w0.heap.size := ⟨_, rfl⟩
  rw [← hgz0] at H Z0
  clear Ex
  generalize w0.alloc (.cells #[.int .i64 1] 2) = wz0 at *
  refine e_callq H rfl rfl (by decide) rfl rfl (Try.call96 _) (entry_any 0 [1] _ 1 1 wz0) ?_
  clear H a
  rintro e we0 ⟨rfl, F0⟩
  refine ⟨_, rfl, fun a H => ?_⟩
  replace Z0 := Z0.ext F0
  have E0b := E0a.tr F0
  refine e_callq H rfl rfl (by decide) rfl rfl (Try.call116 _) (size_any (entR 0 [1]) _ we0 (entR_ok 0 (by omega)) Z0.zl) ?_
  clear H a
  rintro e w1 ⟨rfl, F1⟩
  refine ⟨_, rfl, fun a H => ?_⟩
  rw [ent_size0] at H
  have E1 := E0b.tr F1
  clear Z0 F0 F1 E0a E0b
  refine e_op H rfl rfl (by decide) (x_assign H rfl rfl) ?_
  clear H a; intro a H
  refine e_nil (hR.out _ _ ?_)
  clear hR R
  refine hK2 _ _ ?_
  clear hK2 K2
  refine wp_seq_k (fun K3 hK3 => ?_)
  refine e_region (fun R hR => ?_)
  refine e_op H rfl rfl (by decide) (x_move H rfl rfl) ?_
  clear H a; intro a H
  refine e_op H rfl rfl (by decide) (x_binI H rfl rfl rfl (b_mul (z := 26) (rfl))) ?_
  clear H a; intro a H
  refine e_op H rfl rfl (by decide) (x_binI H rfl rfl rfl (b_add (z := 27) (rfl))) ?_
  clear H a; intro a H
  refine e_callq H rfl rfl (by decide) rfl rfl (Try.call66 _) (newRn 27 w1 (by decide) (by decide) w0.heap.size E1.sz) ?_
  clear H a
  rintro e w2 ⟨g, rfl, R2, F2, _⟩
  refine ⟨_, rfl, fun a H => ?_⟩
  have E2 := E1.tr F2
  replace R2 : Rn w2 w0.heap.size g (.slice none 0 0) [] rg0 := R2
  refine e_op H rfl rfl (by decide) (x_move H rfl rfl) ?_
  clear H a; intro a H
  refine e_op H rfl rfl (by decide) (x_ext0 H rfl rfl) ?_
  clear H a; intro a H
  refine e_op H rfl rfl (by decide) (x_ext1 H rfl rfl) ?_
  clear H a; intro a H
  refine e_op H rfl rfl (by decide) (x_assign H rfl rfl) ?_
  clear H a; intro a H
  refine e_op H rfl rfl (by decide) (x_assign H rfl rfl) ?_
  clear H a; intro a H
  refine e_nil (hR.out _ _ ?_)
  clear hR R
  refine hK3 _ _ ?_
  clear hK3 K3
  refine wp_seq_k (fun K4 hK4 => ?_)
  refine wp_seq_k (fun K5 hK5 => ?_)
  refine e_region (fun R hR => ?_)
  refine e_op H rfl rfl (by decide) (x_move H rfl rfl) ?_
  clear H a; intro a H
  refine e_op H rfl rfl (by decide) (x_binI H rfl rfl rfl (b_neq (b := false) (rfl))) ?_
  clear H a; intro a H
  refine e_op H rfl rfl (by decide) (x_move H rfl rfl) ?_
  clear H a; intro a H
  refine e_opg H (wanted_true H rfl rfl rfl rfl) rfl (by decide) (x_move H rfl rfl) ?_
  clear H a; intro a H
  refine e_opg H (wanted_true H rfl rfl rfl rfl) rfl (by decide) (x_bin H rfl rfl rfl (by rw [eqGuard_at_pointer]; rfl) (b_pnil (c := false) under81 rfl)) ?_
  clear H a; intro a H
  refine e_op H rfl rfl (by decide) (x_pickF H rfl rfl rfl) ?_
  clear H a; intro a H
  refine e_op H rfl rfl (by decide) (x_move H rfl rfl) ?_
  clear H a; intro a H
  refine e_opg H (wanted_true H rfl rfl rfl rfl) rfl (by decide) (x_move H rfl rfl) ?_
  clear H a; intro a H
  refine e_opg H (wanted_true H rfl rfl rfl rfl) rfl (by decide) (x_binI H rfl rfl rfl (b_lss (b := false) (rfl))) ?_
  clear H a; intro a H
  refine e_op H rfl rfl (by decide) (x_pickF H rfl rfl rfl) ?_
  clear H a; intro a H
  refine e_nil (hR.out _ _ ?_)
  clear hR R
  refine hK5 _ _ ?_
  clear hK5 K5
  refine c_false H rfl ?_
  refine wp_skip ?_
  refine hK4 _ _ ?_
  clear hK4 K4
  refine wp_seq_k (fun K6 hK6 => ?_)
  refine e_region (fun R hR => ?_)
  refine e_op H rfl rfl (by decide) (x_move H rfl rfl) ?_
  clear H a; intro a H
  refine e_op H rfl rfl (by decide) (x_buildSlice H rfl rfl (bs91 _ _)) ?_
  clear H a; intro a H
  have Z3 := Zw.one w2 1 0 (Nat.zero_le _)
  have E3a := E2.al (.cells #[.int .i64 1] 2)
  have Ex := (Ext.refl w2).al (.cells #[.int .i64 1] 2)
  replace R2 := R2.ext Ex
  obtain ⟨gz3, hgz3⟩ : ∃ g, g = w2.heap.size := ⟨_, rfl⟩
  rw [← hgz3] at H Z3
  clear Ex
  generalize w2.alloc (.cells #[.int .i64 1] 2) = wz3 at *
  refine e_callq H rfl rfl (by decide) rfl rfl (Try.call96 _) (entry_any 0 [1] _ 1 1 wz3) ?_
  clear H a
  rintro e we3 ⟨rfl, F3⟩
  refine ⟨_, rfl, fun a H => ?_⟩
  replace Z3 := Z3.ext F3
  replace R2 := R2.ext F3
  have E3b := E3a.tr F3
  refine e_callq H rfl rfl (by decide) rfl rfl (Try.call68 _) (put_ok w0.heap.size g (.slice none 0 0) [] rg0 (entR 0 [1]) we3 R2 (entR_ok 0 (by omega)) (some ⟨gz3, 0, none⟩) 1 1 Z3 (ent_facts 0).1 (ent_facts 0).2 (fun h => by cases h) (by have := congrArg List.length R2.eq; rw [List.length_map] at this; rw [this]; decide +kernel) E3b.sz) ?_
  clear H a
  rintro e w3 ⟨v3, ps3, rfl, R3, FF, _⟩
  refine ⟨_, rfl, fun a H => ?_⟩
  have E3 := putExt E3b R2 FF
  replace R3 : Rn w3 w0.heap.size g v3 ps3 rg1 := R3
  clear FF R2 Z3 E3a E3b F3
  rw [q1] at H
  refine e_op H rfl rfl (by decide) (x_move H rfl rfl) ?_
  clear H a; intro a H
  refine e_op H rfl rfl (by decide) (x_ext0 H rfl rfl) ?_
  clear H a; intro a H
  refine e_op H rfl rfl (by decide) (x_ext1 H rfl rfl) ?_
  clear H a; intro a H
  refine e_op H rfl rfl (by decide) (x_assign H rfl rfl) ?_
  clear H a; intro a H
  refine e_op H rfl rfl (by decide) (x_assign H rfl rfl) ?_
  clear H a; intro a H
  refine e_nil (hR.out _ _ ?_)
  clear hR R
  refine hK6 _ _ ?_
  clear hK6 K6
  refine wp_seq_k (fun K7 hK7 => ?_)
  refine e_region (fun R hR => ?_)
  refine e_op H rfl rfl (by decide) (x_move H rfl rfl) ?_
  clear H a; intro a H
  refine e_op H rfl rfl (by decide) (x_buildSlice H rfl rfl (bs91 _ _)) ?_
  clear H a; intro a H
  have Z4 := Zw.one w3 1 0 (Nat.zero_le _)
  have E4a := E3.al (.cells #[.int .i64 1] 2)
  have Ex := (Ext.refl w3).al (.cells #[.int .i64 1] 2)
  replace R3 := R3.ext Ex
  obtain ⟨gz4, hgz4⟩ : ∃ g, g = w3.heap.size := ⟨_, rfl⟩
  rw [← hgz4] at H Z4
  clear Ex
  generalize w3.alloc (.cells #[.int .i64 1] 2) = wz4 at *
  refine e_callq H rfl rfl (by decide) rfl rfl (Try.call96 _) (entry_any 1 [1] _ 1 1 wz4) ?_
  clear H a
  rintro e we4 ⟨rfl, F4⟩
  refine ⟨_, rfl, fun a H => ?_⟩
  replace Z4 := Z4.ext F4
  replace R3 := R3.ext F4
  have E4b := E4a.tr F4
  refine e_callq H rfl rfl (by decide) rfl rfl (Try.call68 _) (put_ok w0.heap.size g v3 ps3 rg1 (entR 1 [1]) we4 R3 (entR_ok 1 (by omega)) (some ⟨gz4, 0, none⟩) 1 1 Z4 (ent_facts 1).1 (ent_facts 1).2 (fun _ => ⟨by rw [q8]; rfl, by rw [q9]; rfl⟩) (by have := congrArg List.length R3.eq; rw [List.length_map] at this; rw [this]; decide +kernel) E4b.sz) ?_
  clear H a
  rintro e w4 ⟨v4, ps4, rfl, R4, FF, _⟩
  refine ⟨_, rfl, fun a H => ?_⟩
  have E4 := putExt E4b R3 FF
  replace R4 : Rn w4 w0.heap.size g v4 ps4 rg2 := R4
  clear FF R3 Z4 E4a E4b F4
  rw [q2] at H
  refine e_op H rfl rfl (by decide) (x_move H rfl rfl) ?_
  clear H a; intro a H
  refine e_op H rfl rfl (by decide) (x_ext0 H rfl rfl) ?_
  clear H a; intro a H
  refine e_op H rfl rfl (by decide) (x_ext1 H rfl rfl) ?_
  clear H a; intro a H
  refine e_op H rfl rfl (by decide) (x_assign H rfl rfl) ?_
  clear H a; intro a H
  refine e_op H rfl rfl (by decide) (x_assign H rfl rfl) ?_
  clear H a; intro a H
  refine e_nil (hR.out _ _ ?_)
  clear hR R
  refine hK7 _ _ ?_
  clear hK7 K7
  refine wp_seq_k (fun K8 hK8 => ?_)
  refine e_region (fun R hR => ?_)
  refine e_op H rfl rfl (by decide) (x_move H rfl rfl) ?_
  clear H a; intro a H
  refine e_op H rfl rfl (by decide) (x_buildSlice H rfl rfl (bs91 _ _)) ?_
  clear H a; intro a H
  have Z5 := Zw.one w4 1 0 (Nat.zero_le _)
  have E5a := E4.al (.cells #[.int .i64 1] 2)
  have Ex := (Ext.refl w4).al (.cells #[.int .i64 1] 2)
  replace R4 := R4.ext Ex
  obtain ⟨gz5, hgz5⟩ : ∃ g, g = w4.heap.size := ⟨_, rfl⟩
  rw [← hgz5] at H Z5
  clear Ex
  generalize w4.alloc (.cells #[.int .i64 1] 2) = wz5 at *
  refine e_callq H rfl rfl (by decide) rfl rfl (Try.call96 _) (entry_any 2 [1] _ 1 1 wz5) ?_
  clear H a
  rintro e we5 ⟨rfl, F5⟩
  refine ⟨_, rfl, fun a H => ?_⟩
  replace Z5 := Z5.ext F5
  replace R4 := R4.ext F5
  have E5b := E5a.tr F5
  refine e_callq H rfl rfl (by decide) rfl rfl (Try.call68 _) (put_ok w0.heap.size g v4 ps4 rg2 (entR 2 [1]) we5 R4 (entR_ok 2 (by omega)) (some ⟨gz5, 0, none⟩) 1 1 Z5 (ent_facts 2).1 (ent_facts 2).2 (fun _ => ⟨by rw [q11]; rfl, by rw [q12]; rfl⟩) (by have := congrArg List.length R4.eq; rw [List.length_map] at this; rw [this]; decide +kernel) E5b.sz) ?_
  clear H a
  rintro e w5 ⟨v5, ps5, rfl, R5, FF, _⟩
  refine ⟨_, rfl, fun a H => ?_⟩
  have E5 := putExt E5b R4 FF
  replace R5 : Rn w5 w0.heap.size g v5 ps5 rg3 := R5
  clear FF R4 Z5 E5a E5b F5
  rw [q3] at H
  refine e_op H rfl rfl (by decide) (x_move H rfl rfl) ?_
  clear H a; intro a H
  refine e_op H rfl rfl (by decide) (x_ext0 H rfl rfl) ?_
  clear H a; intro a H
  refine e_op H rfl rfl (by decide) (x_ext1 H rfl rfl) ?_
  clear H a; intro a H
  refine e_op H rfl rfl (by decide) (x_assign H rfl rfl) ?_
  clear H a; intro a H
  refine e_op H rfl rfl (by decide) (x_assign H rfl rfl) ?_
  clear H a; intro a H
  refine e_nil (hR.out _ _ ?_)
  clear hR R
  refine hK8 _ _ ?_
  clear hK8 K8
  refine wp_seq_k (fun K9 hK9 => ?_)
  refine e_region (fun R hR => ?_)
  refine e_op H rfl rfl (by decide) (x_move H rfl rfl) ?_
  clear H a; intro a H
  refine e_callq H rfl rfl (by decide) rfl rfl (Try.call69 _) (records_any w0.heap.size g v5 ps5 rg3 w5 R5 (by have := congrArg List.length R5.eq; rw [List.length_map] at this; rw [this]; decide +kernel)) ?_
  clear H a
  rintro e w6 ⟨v6, qs, rfl, RL, hqs, F6⟩
  refine ⟨_, rfl, fun a H => ?_⟩
  have E6 := E5.tr F6
  have R6 := R5.ext F6
  obtain ⟨va, vc, rfl, hvc, _⟩ := RL.row.shape
  have q6 := q6
  rw [← hqs, List.map_map] at q6
  obtain ⟨⟨x0, u0⟩, ⟨x1, u1⟩, ⟨x2, u2⟩, rfl⟩ : ∃ a b c, qs = [a, b, c] := by
    match qs, q6 with
    | [a, b, c], _ => exact ⟨a, b, c, rfl⟩
    | [], h => simp at h
    | [_], h => simp at h
    | [_, _], h => simp at h
    | _ :: _ :: _ :: _ :: _, h => simp at h
  simp only [List.map_cons, List.map_nil, Function.comp, List.cons.injEq, Prod.mk.injEq, and_true] at q6
  obtain ⟨⟨h01, h02, h03⟩, _, ⟨_, h22, _⟩⟩ := q6
  obtain ⟨gs, os, rfl, hc0, ok0, _, _⟩ := RL.at_ 0 (x0, u0) rfl
  obtain ⟨gs2, os2, hgs2, hc2, ok2, _, _⟩ := RL.at_ 2 (x2, u2) rfl
  simp only [Option.some.injEq, Addr.mk.injEq] at hgs2
  obtain ⟨rfl, rfl, _⟩ := hgs2
  simp only at hc0 hc2 ok0 ok2
  have l1 : w6.cell? ⟨gs, os + 0 * 29 + 18, none⟩ = some (.int .u8 2) := by rw [hc0 18 _ (rc_what ok0.words), h01]; rfl
  have l2 : w6.cell? ⟨gs, os + 0 * 29 + 1, none⟩ = some (.int .u64 0) := by rw [hc0 1 _ rfl, h02]; rfl
  have l3 : w6.cell? ⟨gs, os + 0 * 29 + 28, none⟩ = some (.int .u64 1) := by rw [hc0 28 _ (rc_lost ok0.words), h03]; rfl
  have l4 : w6.cell? ⟨gs, os + 2 * 29 + 1, none⟩ = some (.int .u64 2) := by rw [hc2 1 _ rfl, h22]; rfl
  refine e_op H rfl rfl (by decide) (x_assign H rfl rfl) ?_
  clear H a; intro a H
  refine e_nil (hR.out _ _ ?_)
  clear hR R
  refine hK9 _ _ ?_
  clear hK9 K9
  refine wp_seq_k (fun K10 hK10 => ?_)
  refine e_region (fun R hR => ?_)
  refine e_op H rfl rfl (by decide) (x_move H rfl rfl) ?_
  clear H a; intro a H
  refine e_op H rfl rfl (by decide) (x_move H rfl rfl) ?_
  clear H a; intro a H
  refine e_op H rfl rfl (by decide) (x_binI H rfl rfl rfl (b_add (z := 0) (rfl))) ?_
  clear H a; intro a H
  refine e_op H rfl rfl (by decide) (x_binI H rfl rfl rfl (b_eql (b := true) (rfl))) ?_
  clear H a; intro a H
  refine e_op H rfl rfl (by decide) (x_move H rfl rfl) ?_
  clear H a; intro a H
  refine e_opg H (wanted_true H rfl rfl rfl rfl) rfl (by decide) (x_move H rfl rfl) ?_
  clear H a; intro a H
  refine e_opg H (wanted_true H rfl rfl rfl rfl) rfl (by decide) (x_binI H rfl rfl rfl (b_eql (b := true) (rfl))) ?_
  clear H a; intro a H
  refine e_op H rfl rfl (by decide) (x_pickT H rfl rfl rfl) ?_
  clear H a; intro a H
  refine e_op H rfl rfl (by decide) (x_move H rfl rfl) ?_
  clear H a; intro a H
  refine e_opg H (wanted_true H rfl rfl rfl rfl) rfl (by decide) (x_move H rfl rfl) ?_
  clear H a; intro a H
  refine e_opg H (wanted_true H rfl rfl rfl rfl) rfl (by decide) (x_binI H rfl rfl rfl (b_eql (b := true) (rfl))) ?_
  clear H a; intro a H
  refine e_op H rfl rfl (by decide) (x_pickT H rfl rfl rfl) ?_
  clear H a; intro a H
  refine e_op H rfl rfl (by decide) (x_move H rfl rfl) ?_
  clear H a; intro a H
  refine e_opg H (wanted_true H rfl rfl rfl rfl) rfl (by decide) (x_move H rfl rfl) ?_
  clear H a; intro a H
  refine e_opg H (wanted_true H rfl rfl rfl rfl) rfl (by decide) (x_binI H rfl rfl rfl (b_eql (b := true) (rfl))) ?_
  clear H a; intro a H
  refine e_op H rfl rfl (by decide) (x_pickT H rfl rfl rfl) ?_
  clear H a; intro a H
  refine e_op H rfl rfl (by decide) (x_move H rfl rfl) ?_
  clear H a; intro a H
  refine e_opg H (wanted_true H rfl rfl rfl rfl) rfl (by decide) (x_move H rfl rfl) ?_
  clear H a; intro a H
  refine e_opg H (wanted_true H rfl rfl rfl rfl) rfl (by decide) (x_binI H rfl rfl rfl (b_eql (b := true) (rfl))) ?_
  clear H a; intro a H
  refine e_op H rfl rfl (by decide) (x_pickT H rfl rfl rfl) ?_
  clear H a; intro a H
  refine e_op H rfl rfl (by decide) (x_move H rfl rfl) ?_
  clear H a; intro a H
  refine e_opg H (wanted_true H rfl rfl rfl rfl) rfl (by decide) (x_move H rfl rfl) ?_
  clear H a; intro a H
  refine e_opg H (wanted_true H rfl rfl rfl rfl) rfl (by decide) (x_builtin H rfl rfl (fun cs => len_sl under84)) ?_
  clear H a; intro a H
  refine e_opg H (wanted_true H rfl rfl rfl rfl) rfl (by decide) (x_binI H rfl rfl rfl (b_eql (b := true) (rfl))) ?_
  clear H a; intro a H
  refine e_op H rfl rfl (by decide) (x_pickT H rfl rfl rfl) ?_
  clear H a; intro a H
  refine e_op H rfl rfl (by decide) (x_move H rfl rfl) ?_
  clear H a; intro a H
  refine e_opg H (wanted_true H rfl rfl rfl rfl) rfl (by decide) (x_move H rfl rfl) ?_
  clear H a; intro a H
  refine e_opg H (wanted_true H rfl rfl rfl rfl) rfl (by decide) (x_indexAddr H rfl rfl rfl (i_slN (m := 0) under84 size95 rfl (by simp))) ?_
  clear H a; intro a H
  refine e_opg H (wanted_true H rfl rfl rfl rfl) rfl (by decide) (x_fieldAddr H rfl rfl (fa95o_3 _ _ _)) ?_
  clear H a; intro a H
  refine e_opg H (wanted_true H rfl rfl rfl rfl) rfl (by decide) (x_load H rfl rfl (l_cell Try.isAgg89 (l1))) ?_
  clear H a; intro a H
  refine e_opg H (wanted_true H rfl rfl rfl rfl) rfl (by decide) (x_binI H rfl rfl rfl (b_eql (b := true) (rfl))) ?_
  clear H a; intro a H
  refine e_op H rfl rfl (by decide) (x_pickT H rfl rfl rfl) ?_
  clear H a; intro a H
  refine e_op H rfl rfl (by decide) (x_move H rfl rfl) ?_
  clear H a; intro a H
  refine e_opg H (wanted_true H rfl rfl rfl rfl) rfl (by decide) (x_move H rfl rfl) ?_
  clear H a; intro a H
  refine e_opg H (wanted_true H rfl rfl rfl rfl) rfl (by decide) (x_indexAddr H rfl rfl rfl (i_slN (m := 0) under84 size95 rfl (by simp))) ?_
  clear H a; intro a H
  refine e_opg H (wanted_true H rfl rfl rfl rfl) rfl (by decide) (x_fieldAddr H rfl rfl (fa95o_1 _ _ _)) ?_
  clear H a; intro a H
  refine e_opg H (wanted_true H rfl rfl rfl rfl) rfl (by decide) (x_load H rfl rfl (l_cell Try.isAgg56 (l2))) ?_
  clear H a; intro a H
  refine e_opg H (wanted_true H rfl rfl rfl rfl) rfl (by decide) (x_binI H rfl rfl rfl (b_eql (b := true) (rfl))) ?_
  clear H a; intro a H
  refine e_op H rfl rfl (by decide) (x_pickT H rfl rfl rfl) ?_
  clear H a; intro a H
  refine e_op H rfl rfl (by decide) (x_move H rfl rfl) ?_
  clear H a; intro a H
  refine e_opg H (wanted_true H rfl rfl rfl rfl) rfl (by decide) (x_move H rfl rfl) ?_
  clear H a; intro a H
  refine e_opg H (wanted_true H rfl rfl rfl rfl) rfl (by decide) (x_indexAddr H rfl rfl rfl (i_slN (m := 0) under84 size95 rfl (by simp))) ?_
  clear H a; intro a H
  refine e_opg H (wanted_true H rfl rfl rfl rfl) rfl (by decide) (x_fieldAddr H rfl rfl (fa95o_5 _ _ _)) ?_
  clear H a; intro a H
  refine e_opg H (wanted_true H rfl rfl rfl rfl) rfl (by decide) (x_load H rfl rfl (l_cell Try.isAgg56 (l3))) ?_
  clear H a; intro a H
  refine e_opg H (wanted_true H rfl rfl rfl rfl) rfl (by decide) (x_binI H rfl rfl rfl (b_eql (b := true) (rfl))) ?_
  clear H a; intro a H
  refine e_op H rfl rfl (by decide) (x_pickT H rfl rfl rfl) ?_
  clear H a; intro a H
  refine e_op H rfl rfl (by decide) (x_move H rfl rfl) ?_
  clear H a; intro a H
  refine e_opg H (wanted_true H rfl rfl rfl rfl) rfl (by decide) (x_move H rfl rfl) ?_
  clear H a; intro a H
  refine e_opg H (wanted_true H rfl rfl rfl rfl) rfl (by decide) (x_indexAddr H rfl rfl rfl (i_slN (m := 2) under84 size95 rfl (by simp))) ?_
  clear H a; intro a H
  refine e_opg H (wanted_true H rfl rfl rfl rfl) rfl (by decide) (x_fieldAddr H rfl rfl (fa95o_1 _ _ _)) ?_
  clear H a; intro a H
  refine e_opg H (wanted_true H rfl rfl rfl rfl) rfl (by decide) (x_load H rfl rfl (l_cell Try.isAgg56 (l4))) ?_
  clear H a; intro a H
  refine e_opg H (wanted_true H rfl rfl rfl rfl) rfl (by decide) (x_binI H rfl rfl rfl (b_eql (b := true) (rfl))) ?_
  clear H a; intro a H
  refine e_op H rfl rfl (by decide) (x_pickT H rfl rfl rfl) ?_
  clear H a; intro a H
  refine e_op H rfl rfl (by decide) (x_move H rfl rfl) ?_
  clear H a; intro a H
  refine e_opg H (wanted_true H rfl rfl rfl rfl) rfl (by decide) (x_move H rfl rfl) ?_
  clear H a; intro a H
  refine e_callqg H (wanted_true H rfl rfl rfl rfl) rfl (by decide) rfl rfl (Try.call88 _) (lost_any w0.heap.size g v5 ps5 rg3 w6 R6) ?_
  clear H a
  rintro e w7 ⟨rfl, F7⟩
  refine ⟨_, rfl, fun a H => ?_⟩
  rw [q4] at H
  have E7 := E6.tr F7
  have R7 := R6.ext F7
  refine e_opg H (wanted_true H rfl rfl rfl rfl) rfl (by decide) (x_binI H rfl rfl rfl (b_eql (b := true) (rfl))) ?_
  clear H a; intro a H
  refine e_op H rfl rfl (by decide) (x_pickT H rfl rfl rfl) ?_
  clear H a; intro a H
  refine e_op H rfl rfl (by decide) (x_move H rfl rfl) ?_
  clear H a; intro a H
  refine e_opg H (wanted_true H rfl rfl rfl rfl) rfl (by decide) (x_move H rfl rfl) ?_
  clear H a; intro a H
  refine e_callqg H (wanted_true H rfl rfl rfl rfl) rfl (by decide) rfl rfl (Try.call87 _) (rlen_any R7) ?_
  clear H a
  rintro e w8 ⟨rfl, rfl⟩
  refine ⟨_, rfl, fun a H => ?_⟩
  rw [q5] at H
  refine e_opg H (wanted_true H rfl rfl rfl rfl) rfl (by decide) (x_binI H rfl rfl rfl (b_eql (b := true) (rfl))) ?_
  clear H a; intro a H
  refine e_op H rfl rfl (by decide) (x_pickT H rfl rfl rfl) ?_
  clear H a; intro a H
  refine e_op H rfl rfl (by decide) (x_assign H rfl rfl) ?_
  clear H a; intro a H
  refine e_nil (hR.out _ _ ?_)
  clear hR R
  refine hK10 _ _ ?_
  clear hK10 K10
  refine wp_ret ?_
  exact ret1 H rfl rfl ⟨rfl, E7⟩
end Go.Proofs.Ytknllmcpogoeoaa
