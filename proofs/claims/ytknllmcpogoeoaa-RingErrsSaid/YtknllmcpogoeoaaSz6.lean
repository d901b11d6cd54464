/- Opening a record that comes in by value, within the form's own reach. -/
import Derived.Test.YtknllmcpogoeoaaK6
import Derived.Test.YtknllmcpogoeoaaSz
namespace Go.Proofs.Ytknllmcpogoeoaa
open Go.ChangeShapes Go.WideShapes Go.ChangeAt Go.RowKit Go.Deep Go.Joins
set_option linter.unusedVariables false
set_option maxRecDepth 100000
section
variable {H : Type} {enc : TypeId × Value → H} {W : World} {base fuel : Nat} {hd : Bool}
theorem bytesW2 : Try.prog.bytesOf 2 = 8 := by kernel_rfl
theorem open_zlW {v : Value} {d : DataW H} {p : List MemPlace} (h : DataW.trod enc Try.prog W base (fun _ => true) hd fuel 91 [v] = some (d, p)) (hB : ∀ n ∈ d.weights Try.prog 91, n ≤ 140737488351232) : ∃ zs : List Int, Zl W v zs ∧ zs.length ≤ 140737488351232 ∧ ∀ z ∈ zs, -9223372036854775808 ≤ z ∧ z ≤ 9223372036854775807 := by
  obtain ⟨a, n, c, l, rfl, hb, he, hz, hkk, hm⟩ := open_zsT Try.underlying91 Try.underlying2 (by kernel_rfl) h
  have hl := hb.leng
  have hn := slice_len Try.underlying91 h hB
  rw [bytesW2] at hn
  exact ⟨l, ⟨a, n, c, rfl, hb, he, hz, by omega⟩, by omega, fun z hz => bounds_i64 (hm z hz)⟩
end
theorem open_evtW {H : Type} {enc : TypeId × Value → H} {W : World} {base fuel : Nat} {hd : Bool} {e0 e1 e2 e3 e4 e5 e6 e7 e8 : Value} {d : DataW H} {p : List MemPlace} (h : DataW.trod enc Try.prog W base (fun _ => true) hd fuel 93 [e0, e1, e2, e3, e4, e5, e6, e7, e8] = some (d, p)) (hB : ∀ n ∈ d.weights Try.prog 93, n ≤ 140737488351232) :
    ∃ x : Evt, [e0, e1, e2, e3, e4, e5, e6, e7, e8] = x.cells e8 ∧ x.ok ∧ Zl W e8 x.args ∧ x.args.length ≤ 140737488351232 := by
  obtain ⟨y0, y1, y2, y3, y4, y5, y6, y7, y8, n, hd0, _, h0, h1, h2, h3, h4, h5, h6, h7, h8⟩ := trod_struct9 Try.underlying93 h
  simp only at hd0
  rw [hd0] at hB
  have k3 : Try.prog.cellsOf 3 = 1 := by kernel_rfl
  have k2 : Try.prog.cellsOf 2 = 1 := by kernel_rfl
  have k90 : Try.prog.cellsOf 90 = 1 := by kernel_rfl
  have k91 : Try.prog.cellsOf 91 = 1 := by kernel_rfl
  simp only [k3, k2, k90, k91, List.drop_zero, List.drop_succ_cons, List.take_succ_cons, List.take_zero] at h0 h1 h2 h3 h4 h5 h6 h7 h8
  obtain ⟨x0, q0, _, w0⟩ := DataW.trod_int Try.underlying3 h0
  obtain ⟨x1, q1, _, w1⟩ := DataW.trod_int Try.underlying3 h1
  obtain ⟨x2, q2, _, w2⟩ := DataW.trod_int Try.underlying90 h2
  obtain ⟨x3, q3, _, w3⟩ := DataW.trod_int Try.underlying3 h3
  obtain ⟨x4, q4, _, w4⟩ := DataW.trod_int Try.underlying3 h4
  obtain ⟨x5, q5, _, w5⟩ := DataW.trod_int Try.underlying3 h5
  obtain ⟨x6, q6, _, w6⟩ := DataW.trod_int Try.underlying3 h6
  obtain ⟨x7, q7, _, w7⟩ := DataW.trod_int Try.underlying2 h7
  obtain ⟨zs, hz, hzl, hzr⟩ := open_zlW (d := y8.1) (p := y8.2) h8 (fun k hk => hB k (by simp [DataW.weights, Try.underlying93, DataW.weightsEach, hk]))
  simp only [List.cons.injEq, and_true] at q0 q1 q2 q3 q4 q5 q6 q7
  subst q0 q1 q2 q3 q4 q5 q6 q7
  obtain ⟨m2, rfl, hm2⟩ := u8_rng w2
  exact ⟨⟨x0, x1, m2, x3, x4, x5, x6, x7, zs⟩, rfl, ⟨bounds_i64 w0, bounds_i64 w1, hm2, bounds_i64 w3, bounds_i64 w4, bounds_i64 w5, bounds_i64 w6, bounds_i64 w7, hzr⟩, hz, hzl⟩
/-- record.Record -/
theorem open_recW {H : Type} {enc : TypeId × Value → H} {W : World} {base : Nat} {hd : Bool} {r : Reach} {b0 : Nat} {v : Value} {d : DataW H} {p : List MemPlace} (hv : Value.okWide Try.prog W r b0 95 v) (h : DataW.Trod enc Try.prog W base (fun _ => true) hd 95 v d p) (hB : ∀ n ∈ d.weights Try.prog 95, n ≤ 140737488351232) :
    ∃ (x : Rcd) (u : Value), v = .agg (x.cells u).toArray ∧ x.ok ∧ Zl W u x.ev.args ∧ x.ev.args.length ≤ 140737488351232 := by
  obtain ⟨cs, rfl, hsz⟩ := okWide_struct Try.underlying95 hv
  have k95 : Try.prog.cellsOf 95 = 29 := by kernel_rfl
  rw [k95] at hsz
  obtain ⟨L⟩ := cs
  obtain ⟨c0, c1, c2, c3, c4, c5, c6, c7, c8, c9, c10, c11, c12, c13, c14, c15, c16, c17, c18, c19, c20, c21, c22, c23, c24, c25, c26, c27, c28, rfl⟩ := list29 (L := L) (by simpa using hsz)
  obtain ⟨fuel, hf⟩ := h
  obtain ⟨y0, y1, y2, y3, y4, y5, n, hx, _, h0, h1, h2, h3, h4, h5⟩ := trod_struct6 Try.underlying95 hf
  simp only [Prod.mk.injEq] at hx
  rw [hx.1] at hB
  have k3 : Try.prog.cellsOf 3 = 1 := by kernel_rfl
  have k56 : Try.prog.cellsOf 56 = 1 := by kernel_rfl
  have k88 : Try.prog.cellsOf 88 = 16 := by kernel_rfl
  have k89 : Try.prog.cellsOf 89 = 1 := by kernel_rfl
  have k93 : Try.prog.cellsOf 93 = 9 := by kernel_rfl
  simp only [k3, k56, k88, k89, k93, Value.cells, List.drop_zero, List.drop_succ_cons, List.take_succ_cons, List.take_zero] at h0 h1 h2 h3 h4 h5
  obtain ⟨x0, q0, _, w0⟩ := DataW.trod_int Try.underlying3 h0
  obtain ⟨x1, q1, _, w1⟩ := DataW.trod_int Try.underlying56 h1
  obtain ⟨ws, hws, h16, h64⟩ := open_clock h2
  obtain ⟨x3, q3, _, w3⟩ := DataW.trod_int Try.underlying89 h3
  obtain ⟨ev, hev, hevo, hz, hzl⟩ := open_evtW (d := y4.1) (p := y4.2) h4 (fun k hk => hB k (by simp [DataW.weights, Try.underlying95, DataW.weightsEach, hk]))
  obtain ⟨x5, q5, _, w5⟩ := DataW.trod_int Try.underlying56 h5
  simp only [List.cons.injEq, and_true] at q0 q1 q3 q5
  subst q0 q1 q3 q5
  obtain ⟨m1, rfl, hm1⟩ := u64_rng w1
  obtain ⟨m3, rfl, hm3⟩ := u8_rng w3
  obtain ⟨m5, rfl, hm5⟩ := u64_rng w5
  refine ⟨⟨x0, m1, ws, m3, ev, m5⟩, c27, ?_, ⟨bounds_i64 w0, hm1, h16, h64, hm3, hevo, hm5⟩, hz, hzl⟩
  unfold Rcd.cells
  simp only
  rw [← hev, show (ws.map fun (x : Nat) => Value.int .u64 (x : Int)) = u64s ws from rfl, ← hws]
  rfl
end Go.Proofs.Ytknllmcpogoeoaa
