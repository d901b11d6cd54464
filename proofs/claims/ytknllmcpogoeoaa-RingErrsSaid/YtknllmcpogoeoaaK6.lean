/- Opening a record that comes in by value. -/
import Derived.Test.YtknllmcpogoeoaaK5
import Derived.Test.YtknllmcpogoeoaaR4
namespace Go.Proofs.Ytknllmcpogoeoaa
open Go.ChangeShapes Go.WideShapes Go.ChangeAt Go.RowKit Go.Deep Go.Joins
set_option linter.unusedVariables false
set_option maxRecDepth 100000
theorem trod_struct9 {P : Program} {H : Type} {enc : TypeId × Value → H} {w : World} {base : Nat} {spare : Nat → Bool} {held : Bool} {t : TypeId} {f0 f1 f2 f3 f4 f5 f6 f7 f8 : Field} {fuel : Nat} {cs : List Value} {x : DataW H × List MemPlace} (ht : P.underlying t = some (.struct #[f0, f1, f2, f3, f4, f5, f6, f7, f8])) (h : DataW.trod enc P w base spare held fuel t cs = some x) :
    ∃ y0 y1 y2 y3 y4 y5 y6 y7 y8 n, x.1 = .agg [y0.1, y1.1, y2.1, y3.1, y4.1, y5.1, y6.1, y7.1, y8.1] ∧ cs.length = P.cellsOf t ∧ DataW.trod enc P w base spare held n f0.type ((cs.drop f0.offset).take (P.cellsOf f0.type)) = some y0 ∧
      DataW.trod enc P w base spare held n f1.type ((cs.drop f1.offset).take (P.cellsOf f1.type)) = some y1 ∧ DataW.trod enc P w base spare held n f2.type ((cs.drop f2.offset).take (P.cellsOf f2.type)) = some y2 ∧
      DataW.trod enc P w base spare held n f3.type ((cs.drop f3.offset).take (P.cellsOf f3.type)) = some y3 ∧ DataW.trod enc P w base spare held n f4.type ((cs.drop f4.offset).take (P.cellsOf f4.type)) = some y4 ∧
      DataW.trod enc P w base spare held n f5.type ((cs.drop f5.offset).take (P.cellsOf f5.type)) = some y5 ∧ DataW.trod enc P w base spare held n f6.type ((cs.drop f6.offset).take (P.cellsOf f6.type)) = some y6 ∧
      DataW.trod enc P w base spare held n f7.type ((cs.drop f7.offset).take (P.cellsOf f7.type)) = some y7 ∧ DataW.trod enc P w base spare held n f8.type ((cs.drop f8.offset).take (P.cellsOf f8.type)) = some y8 := by
  obtain ⟨xs, n, _, rfl, hl, hlen, hf⟩ := DataW.trod_struct ht h
  match xs, hlen with
  | [y0, y1, y2, y3, y4, y5, y6, y7, y8], _ => exact ⟨y0, y1, y2, y3, y4, y5, y6, y7, y8, n, by simp, hl, by simpa using hf 0 f0 rfl, by simpa using hf 1 f1 rfl, by simpa using hf 2 f2 rfl, by simpa using hf 3 f3 rfl, by simpa using hf 4 f4 rfl, by simpa using hf 5 f5 rfl, by simpa using hf 6 f6 rfl, by simpa using hf 7 f7 rfl, by simpa using hf 8 f8 rfl⟩
section
variable {H : Type} {enc : TypeId × Value → H} {W : World} {base fuel : Nat} {hd : Bool}
theorem open_words {cs : List Value} {x : DataW H × List MemPlace} (h : DataW.trod enc Try.prog W base (fun _ => true) hd fuel 86 cs = some x) : ∃ ws : List Nat, cs = u64s ws ∧ ws.length = 16 ∧ ∀ z ∈ ws, z < 18446744073709551616 := by
  obtain ⟨xs, m, _, _, hl, hlen, hf⟩ := DataW.trod_array Try.underlying86 h
  have k86 : Try.prog.cellsOf 86 = 16 := by kernel_rfl
  have k56 : Try.prog.cellsOf 56 = 1 := by kernel_rfl
  rw [k86] at hl
  rw [k56] at hf
  have each : ∀ i, i < 16 → ∃ n : Nat, n < 18446744073709551616 ∧ cs[i]? = some (.int .u64 (n : Int)) := by
    intro i hi
    have h1 := hf i hi
    rw [List.getElem?_eq_getElem (by omega)] at h1
    obtain ⟨x, hx, _, hw⟩ := DataW.trod_int Try.underlying56 h1
    obtain ⟨n, rfl, hn⟩ := u64_rng hw
    refine ⟨n, hn, ?_⟩
    rw [Nat.mul_one] at hx
    have := congrArg (fun l => l[0]?) hx
    simpa [List.getElem?_take, List.getElem?_drop] using this
  obtain ⟨y, hy⟩ := choose_lt each
  refine ⟨(List.range 16).map y, ?_, by simp, fun z hz => ?_⟩
  · apply List.ext_getElem?
    intro i
    by_cases hi : i < 16
    · rw [(hy i hi).2]
      simp [u64s, List.getElem?_map, List.getElem?_range hi]
    · rw [List.getElem?_eq_none (by omega), List.getElem?_eq_none (by simp [u64s]; omega)]
  · obtain ⟨i, hi, rfl⟩ := List.mem_map.1 hz
    exact (hy i (List.mem_range.1 hi)).1
theorem open_clock {cs : List Value} {x : DataW H × List MemPlace} (h : DataW.trod enc Try.prog W base (fun _ => true) hd fuel 88 cs = some x) : ∃ ws : List Nat, cs = u64s ws ∧ ws.length = 16 ∧ ∀ z ∈ ws, z < 18446744073709551616 := by
  obtain ⟨y0, n, _, hl, h0⟩ := trod_struct1 Try.underlying88 h
  have k88 : Try.prog.cellsOf 88 = 16 := by kernel_rfl
  have k86 : Try.prog.cellsOf 86 = 16 := by kernel_rfl
  rw [k88] at hl
  simp only [k86, List.drop_zero] at h0
  rw [List.take_of_length_le (by omega)] at h0
  exact open_words h0
theorem open_zl {v : Value} {d : DataW H} {p : List MemPlace} (h : DataW.trod enc Try.prog W base (fun _ => true) hd fuel 91 [v] = some (d, p)) (hk : Rows.uptoBulk d ≤ 1048576) : ∃ zs : List Int, Zl W v zs ∧ zs.length ≤ 1048576 ∧ ∀ z ∈ zs, -9223372036854775808 ≤ z ∧ z ≤ 9223372036854775807 := by
  obtain ⟨a, n, c, l, rfl, hb, he, hz, hkk, hm⟩ := open_zsT Try.underlying91 Try.underlying2 (by kernel_rfl) h
  have hl := hb.leng
  exact ⟨l, ⟨a, n, c, rfl, hb, he, hz, by omega⟩, by omega, fun z hz => bounds_i64 (hm z hz)⟩
end
theorem mem_bulk {H : Type} {d : DataW H} {l : List (DataW H)} (h : d ∈ l) {k : Nat} (hb : Rows.uptoBulk (.agg l) ≤ k) : Rows.uptoBulk d ≤ k := by
  simp only [Rows.uptoBulk] at hb
  have := bulk_mem l d h
  omega
theorem list29 {α : Type} {L : List α} (h : L.length = 29) : ∃ c0 c1 c2 c3 c4 c5 c6 c7 c8 c9 c10 c11 c12 c13 c14 c15 c16 c17 c18 c19 c20 c21 c22 c23 c24 c25 c26 c27 c28, L = [c0, c1, c2, c3, c4, c5, c6, c7, c8, c9, c10, c11, c12, c13, c14, c15, c16, c17, c18, c19, c20, c21, c22, c23, c24, c25, c26, c27, c28] := by
  match L, h with
  | [c0, c1, c2, c3, c4, c5, c6, c7, c8, c9, c10, c11, c12, c13, c14, c15, c16, c17, c18, c19, c20, c21, c22, c23, c24, c25, c26, c27, c28], _ => exact ⟨c0, c1, c2, c3, c4, c5, c6, c7, c8, c9, c10, c11, c12, c13, c14, c15, c16, c17, c18, c19, c20, c21, c22, c23, c24, c25, c26, c27, c28, rfl⟩
theorem open_evt {H : Type} {enc : TypeId × Value → H} {W : World} {base fuel : Nat} {hd : Bool} {e0 e1 e2 e3 e4 e5 e6 e7 e8 : Value} {d : DataW H} {p : List MemPlace} (h : DataW.trod enc Try.prog W base (fun _ => true) hd fuel 93 [e0, e1, e2, e3, e4, e5, e6, e7, e8] = some (d, p)) (hk : Rows.uptoBulk d ≤ 1048576) :
    ∃ x : Evt, [e0, e1, e2, e3, e4, e5, e6, e7, e8] = x.cells e8 ∧ x.ok ∧ Zl W e8 x.args ∧ x.args.length ≤ 1048576 := by
  obtain ⟨y0, y1, y2, y3, y4, y5, y6, y7, y8, n, hd0, _, h0, h1, h2, h3, h4, h5, h6, h7, h8⟩ := trod_struct9 Try.underlying93 h
  simp only at hd0
  rw [hd0] at hk
  have k3 : Try.prog.cellsOf 3 = 1 := by kernel_rfl
  have k2 : Try.prog.cellsOf 2 = 1 := by kernel_rfl
  have k90 : Try.prog.cellsOf 90 = 1 := by kernel_rfl
  have k91 : Try.prog.cellsOf 91 = 1 := by kernel_rfl
  simp only [k3, k2, k90, k91, List.drop_zero, List.drop_succ_cons, List.take_succ_cons, List.take_zero] at h0 h1 h2 h3 h4 h5 h6 h7 h8
  obtain ⟨x0, q0, _, w0⟩ := DataW.trod_int Try.underlying3 h0
  obtain ⟨x1, q1, _, w1⟩ := DataW.trod_int Try.underlying3 h1
  obtain ⟨x2, q2, _, w2⟩ := DataW.trod_int Try.underlying90 h2
  obtain ⟨x3, q3, _, w3⟩ := DataW.trod_int Try.underlying3 h3
  obtain ⟨x4, q4, _, w4⟩ := DataW.trod_int Try.underlying3 h4
  obtain ⟨x5, q5, _, w5⟩ := DataW.trod_int Try.underlying3 h5
  obtain ⟨x6, q6, _, w6⟩ := DataW.trod_int Try.underlying3 h6
  obtain ⟨x7, q7, _, w7⟩ := DataW.trod_int Try.underlying2 h7
  obtain ⟨zs, hz, hzl, hzr⟩ := open_zl (d := y8.1) (p := y8.2) h8 (mem_bulk (by simp) hk)
  simp only [List.cons.injEq, and_true] at q0 q1 q2 q3 q4 q5 q6 q7
  subst q0 q1 q2 q3 q4 q5 q6 q7
  obtain ⟨m2, rfl, hm2⟩ := u8_rng w2
  exact ⟨⟨x0, x1, m2, x3, x4, x5, x6, x7, zs⟩, rfl, ⟨bounds_i64 w0, bounds_i64 w1, hm2, bounds_i64 w3, bounds_i64 w4, bounds_i64 w5, bounds_i64 w6, bounds_i64 w7, hzr⟩, hz, hzl⟩
/-- record.Record -/
theorem open_rec {H : Type} {enc : TypeId × Value → H} {W : World} {base : Nat} {hd : Bool} {r : Reach} {b0 : Nat} {v : Value} {d : DataW H} {p : List MemPlace} (hv : Value.okWide Try.prog W r b0 95 v) (h : DataW.Trod enc Try.prog W base (fun _ => true) hd 95 v d p) (hk : Rows.uptoBulk d ≤ 1048576) :
    ∃ (x : Rcd) (u : Value), v = .agg (x.cells u).toArray ∧ x.ok ∧ Zl W u x.ev.args ∧ x.ev.args.length ≤ 1048576 := by
  obtain ⟨cs, rfl, hsz⟩ := okWide_struct Try.underlying95 hv
  have k95 : Try.prog.cellsOf 95 = 29 := by kernel_rfl
  rw [k95] at hsz
  obtain ⟨L⟩ := cs
  obtain ⟨c0, c1, c2, c3, c4, c5, c6, c7, c8, c9, c10, c11, c12, c13, c14, c15, c16, c17, c18, c19, c20, c21, c22, c23, c24, c25, c26, c27, c28, rfl⟩ := list29 (L := L) (by simpa using hsz)
  obtain ⟨fuel, hf⟩ := h
  obtain ⟨y0, y1, y2, y3, y4, y5, n, hx, _, h0, h1, h2, h3, h4, h5⟩ := trod_struct6 Try.underlying95 hf
  simp only [Prod.mk.injEq] at hx
  rw [hx.1] at hk
  have k3 : Try.prog.cellsOf 3 = 1 := by kernel_rfl
  have k56 : Try.prog.cellsOf 56 = 1 := by kernel_rfl
  have k88 : Try.prog.cellsOf 88 = 16 := by kernel_rfl
  have k89 : Try.prog.cellsOf 89 = 1 := by kernel_rfl
  have k93 : Try.prog.cellsOf 93 = 9 := by kernel_rfl
  simp only [k3, k56, k88, k89, k93, Value.cells, List.drop_zero, List.drop_succ_cons, List.take_succ_cons, List.take_zero] at h0 h1 h2 h3 h4 h5
  obtain ⟨x0, q0, _, w0⟩ := DataW.trod_int Try.underlying3 h0
  obtain ⟨x1, q1, _, w1⟩ := DataW.trod_int Try.underlying56 h1
  obtain ⟨ws, hws, h16, h64⟩ := open_clock h2
  obtain ⟨x3, q3, _, w3⟩ := DataW.trod_int Try.underlying89 h3
  obtain ⟨ev, hev, hevo, hz, hzl⟩ := open_evt (d := y4.1) (p := y4.2) h4 (mem_bulk (by simp) hk)
  obtain ⟨x5, q5, _, w5⟩ := DataW.trod_int Try.underlying56 h5
  simp only [List.cons.injEq, and_true] at q0 q1 q3 q5
  subst q0 q1 q3 q5
  obtain ⟨m1, rfl, hm1⟩ := u64_rng w1
  obtain ⟨m3, rfl, hm3⟩ := u8_rng w3
  obtain ⟨m5, rfl, hm5⟩ := u64_rng w5
  refine ⟨⟨x0, m1, ws, m3, ev, m5⟩, c27, ?_, ⟨bounds_i64 w0, hm1, h16, h64, hm3, hevo, hm5⟩, hz, hzl⟩
  unfold Rcd.cells
  simp only
  rw [← hev, show (ws.map fun (x : Nat) => Value.int .u64 (x : Int)) = u64s ws from rfl, ← hws]
  rfl
end Go.Proofs.Ytknllmcpogoeoaa
