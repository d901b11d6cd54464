/- Opening a step. -/
import Derived.Test.YtknllmcpogoeoaaK2
namespace Go.Proofs.Ytknllmcpogoeoaa
open Go.ChangeShapes Go.WideShapes Go.ChangeAt Go.RowKit Go.Deep Go.Joins
set_option linter.unusedVariables false
set_option maxRecDepth 100000
theorem open_step1 {H : Type} {enc : TypeId × Value → H} {W : World} {base : Nat} {hd : Bool} {r : Reach} {b0 : Nat} {v : Value} {d : DataW H} {p : List MemPlace} (hv : Value.okWide Try.prog W r b0 123 v) (h : DataW.Trod enc Try.prog W base (fun _ => true) hd 123 v d p) :
    ∃ (x : Int) (t : Nat) (o s : Int), v = .agg #[.int .i64 x, .int .u64 (t : Int), .int .i64 o, .int .i64 s] ∧ (-9223372036854775808 ≤ x ∧ x ≤ 9223372036854775807) ∧ t ≤ 18446744073709551615 ∧ (-9223372036854775808 ≤ o ∧ o ≤ 9223372036854775807) ∧ (-9223372036854775808 ≤ s ∧ s ≤ 9223372036854775807) := by
  obtain ⟨v0, v1, v2, v3, y0, y1, y2, y3, n, rfl, rfl, rfl, h0, h1, h2, h3⟩ := open_agg4 Try.underlying123 (by kernel_rfl) (by kernel_rfl) hv h
  obtain ⟨x, hx, rfl, hw0⟩ := DataW.trod_int Try.underlying3 h0
  simp only [List.cons.injEq, and_true] at hx
  subst hx
  obtain ⟨t, ht, rfl, hw1⟩ := DataW.trod_int Try.underlying56 h1
  simp only [List.cons.injEq, and_true] at ht
  subst ht
  obtain ⟨m, rfl, hm⟩ := u64_rng hw1
  obtain ⟨o, ho, rfl, hw2⟩ := DataW.trod_int Try.underlying3 h2
  simp only [List.cons.injEq, and_true] at ho
  subst ho
  obtain ⟨s, hs, rfl, hw3⟩ := DataW.trod_int Try.underlying3 h3
  simp only [List.cons.injEq, and_true] at hs
  subst hs
  exact ⟨x, m, o, s, rfl, bounds_i64 hw0, by omega, bounds_i64 hw2, bounds_i64 hw3⟩
end Go.Proofs.Ytknllmcpogoeoaa
