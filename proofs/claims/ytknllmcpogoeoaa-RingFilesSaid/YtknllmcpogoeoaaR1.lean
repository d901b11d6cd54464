/- A ring's record, plainly, and how it lies in memory. -/
import Derived.Test.YtknllmcpogoeoaaEn
import Derived.Test.YtknllmcpogoeoaaK2
namespace Go.Proofs.Ytknllmcpogoeoaa
open Go.RowKit
set_option linter.unusedVariables false
set_option linter.unusedSimpArgs false
set_option maxRecDepth 100000
/-- an event: eight numbers, the third a byte, and its arguments -/
structure Evt where
  a : Int
  comp : Int
  kind : Nat
  c : Int
  d : Int
  e : Int
  f : Int
  g : Int
  args : List Int
/-- a record: the era, the index, the sixteen words, what it is, its event, how many are lost -/
structure Rcd where
  era : Int
  idx : Nat
  words : List Nat
  what : Nat
  ev : Evt
  lost : Nat
def Evt.cells (x : Evt) (v : Value) : List Value := [.int .i64 x.a, .int .i64 x.comp, .int .u8 (x.kind : Int), .int .i64 x.c, .int .i64 x.d, .int .i64 x.e, .int .i64 x.f, .int .i64 x.g, v]
def Rcd.cells (r : Rcd) (v : Value) : List Value := [.int .i64 r.era, .int .u64 (r.idx : Int)] ++ (r.words.map fun x => .int .u64 (x : Int)) ++ [.int .u8 (r.what : Int)] ++ r.ev.cells v ++ [.int .u64 (r.lost : Int)]
theorem Evt.cells_len (x : Evt) (v : Value) : (x.cells v).length = 9 := rfl
theorem Rcd.cells_len (r : Rcd) (v : Value) (h : r.words.length = 16) : (r.cells v).length = 29 := by
  simp [Rcd.cells, Evt.cells, h]
/-- a good slice of int64 -/
def Zl (w : World) (v : Value) (zs : List Int) : Prop := ∃ a n c, v = .slice a n c ∧ Zs w .i64 a n zs ∧ n ≤ c ∧ (a = none → c = 0) ∧ n ≤ 140737488351232
theorem Zl.ext {w0 w : World} {v : Value} {zs : List Int} (h : Zl w0 v zs) (e : Ext w0 w) : Zl w v zs := by
  obtain ⟨a, n, c, rfl, hz, r⟩ := h
  exact ⟨a, n, c, rfl, hz.ext e, r⟩
/-- what a record's numbers may be -/
structure Evt.ok (x : Evt) : Prop where
  a : -9223372036854775808 ≤ x.a ∧ x.a ≤ 9223372036854775807
  comp : -9223372036854775808 ≤ x.comp ∧ x.comp ≤ 9223372036854775807
  kind : x.kind ≤ 255
  c : -9223372036854775808 ≤ x.c ∧ x.c ≤ 9223372036854775807
  d : -9223372036854775808 ≤ x.d ∧ x.d ≤ 9223372036854775807
  e : -9223372036854775808 ≤ x.e ∧ x.e ≤ 9223372036854775807
  f : -9223372036854775808 ≤ x.f ∧ x.f ≤ 9223372036854775807
  g : -9223372036854775808 ≤ x.g ∧ x.g ≤ 9223372036854775807
  args : ∀ z ∈ x.args, -9223372036854775808 ≤ z ∧ z ≤ 9223372036854775807
structure Rcd.ok (r : Rcd) : Prop where
  era : -9223372036854775808 ≤ r.era ∧ r.era ≤ 9223372036854775807
  idx : r.idx < 18446744073709551616
  words : r.words.length = 16
  w64 : ∀ z ∈ r.words, z < 18446744073709551616
  what : r.what ≤ 255
  ev : r.ev.ok
  lost : r.lost < 18446744073709551616
/-- a record as a value -/
def Rc (w : World) (v : Value) (r : Rcd) : Prop := ∃ u, v = .agg (r.cells u).toArray ∧ Zl w u r.ev.args ∧ r.ok
theorem Rc.ext {w0 w : World} {v : Value} {r : Rcd} (h : Rc w0 v r) (e : Ext w0 w) : Rc w v r := by
  obtain ⟨u, rfl, hz, k⟩ := h
  exact ⟨u, rfl, hz.ext e, k⟩
/-- what the package checks -/
def inN (v high : Int) : Bool := decide (0 ≤ v) && decide (v ≤ high)
def Evt.good (x : Evt) (era : Int) : Bool := (x.comp == era) && inN x.a 200 && decide (1 ≤ x.kind) && decide (x.kind ≤ 11) && inN x.c 8 && inN x.d 2147483647 && inN x.e 1 && inN x.f 7 && decide (x.args.length ≤ 4)
theorem within_any (v high : Int) (w : World) : Calls Try.prog 127 #[.int .i64 v, .int .i64 high] w fun e w' => e = .returned (.bool (inN v high)) ∧ w' = w := by
  by_cases h : 0 ≤ v
  · skip
    refine calls_has (args := [.int .i64 v, .int .i64 high]) Try.func127 rfl Try.ntmps127 (Nat.le_of_ble_eq_true rfl) (fun a H => ?_)
    simp only [argl, Nat.reduceAdd] at H
    refine wp_seq_k (fun K1 hK1 => ?_)
    refine e_region (fun R hR => ?_)
    refine e_op H rfl rfl (by decide) (x_assign H rfl rfl) ?_
    clear H a; intro a H
    refine e_nil (hR.out _ _ ?_)
    clear hR R
    refine hK1 _ _ ?_
    clear hK1 K1
    refine wp_seq_k (fun K2 hK2 => ?_)
    refine e_region (fun R hR => ?_)
    refine e_op H rfl rfl (by decide) (x_move H rfl rfl) ?_
    clear H a; intro a H
    refine e_op H rfl rfl (by decide) (x_binI H rfl rfl rfl (b_leq (b := true) (dec_t h))) ?_
    clear H a; intro a H
    refine e_op H rfl rfl (by decide) (x_move H rfl rfl) ?_
    clear H a; intro a H
    refine e_opg H (wanted_true H rfl rfl rfl rfl) rfl (by decide) (x_move H rfl rfl) ?_
    clear H a; intro a H
    refine e_opg H (wanted_true H rfl rfl rfl rfl) rfl (by decide) (x_move H rfl rfl) ?_
    clear H a; intro a H
    refine e_opg H (wanted_true H rfl rfl rfl rfl) rfl (by decide) (x_binI H rfl rfl rfl (b_leq (b := decide (v ≤ high)) (rfl))) ?_
    clear H a; intro a H
    refine e_op H rfl rfl (by decide) (x_pickT H rfl rfl rfl) ?_
    clear H a; intro a H
    refine e_op H rfl rfl (by decide) (x_assign H rfl rfl) ?_
    clear H a; intro a H
    refine e_nil (hR.out _ _ ?_)
    clear hR R
    refine hK2 _ _ ?_
    clear hK2 K2
    refine wp_ret ?_
    exact ret1 H rfl rfl ⟨by unfold inN; rw [decide_eq_true h]; rfl, rfl⟩
  · skip
    refine calls_has (args := [.int .i64 v, .int .i64 high]) Try.func127 rfl Try.ntmps127 (Nat.le_of_ble_eq_true rfl) (fun a H => ?_)
    simp only [argl, Nat.reduceAdd] at H
    refine wp_seq_k (fun K1 hK1 => ?_)
    refine e_region (fun R hR => ?_)
    refine e_op H rfl rfl (by decide) (x_assign H rfl rfl) ?_
    clear H a; intro a H
    refine e_nil (hR.out _ _ ?_)
    clear hR R
    refine hK1 _ _ ?_
    clear hK1 K1
    refine wp_seq_k (fun K2 hK2 => ?_)
    refine e_region (fun R hR => ?_)
    refine e_op H rfl rfl (by decide) (x_move H rfl rfl) ?_
    clear H a; intro a H
    refine e_op H rfl rfl (by decide) (x_binI H rfl rfl rfl (b_leq (b := false) (dec_f h))) ?_
    clear H a; intro a H
    refine e_op H rfl rfl (by decide) (x_move H rfl rfl) ?_
    clear H a; intro a H
    refine e_skip H (wanted_false H rfl rfl rfl rfl) rfl (by decide) ?_
    clear H a; intro a H
    refine e_skip H (wanted_false H rfl rfl rfl rfl) rfl (by decide) ?_
    clear H a; intro a H
    refine e_skip H (wanted_false H rfl rfl rfl rfl) rfl (by decide) ?_
    clear H a; intro a H
    refine e_op H rfl rfl (by decide) (x_pickF H rfl rfl rfl) ?_
    clear H a; intro a H
    refine e_op H rfl rfl (by decide) (x_assign H rfl rfl) ?_
    clear H a; intro a H
    refine e_nil (hR.out _ _ ?_)
    clear hR R
    refine hK2 _ _ ?_
    clear hK2 K2
    refine wp_ret ?_
    exact ret1 H rfl rfl ⟨by unfold inN; rw [decide_eq_false h]; rfl, rfl⟩
end Go.Proofs.Ytknllmcpogoeoaa
