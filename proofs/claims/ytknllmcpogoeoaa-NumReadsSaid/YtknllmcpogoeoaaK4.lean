/- Opening a slice of steps. -/
import Derived.Test.YtknllmcpogoeoaaK3
namespace Go.Proofs.Ytknllmcpogoeoaa
open Go.ChangeShapes Go.WideShapes Go.ChangeAt Go.RowKit Go.Deep Go.Joins
set_option linter.unusedVariables false
set_option maxRecDepth 100000
/-- a step of rootcauselaw01 -/
structure Stp where
  kind : Int
  most : Nat
  low : Int
  high : Int
deriving Inhabited
def Stp.ok (s : Stp) : Prop := (-9223372036854775808 ≤ s.kind ∧ s.kind ≤ 9223372036854775807) ∧ s.most < 18446744073709551616 ∧ (-9223372036854775808 ≤ s.low ∧ s.low ≤ 9223372036854775807) ∧ (-9223372036854775808 ≤ s.high ∧ s.high ≤ 9223372036854775807)
structure Ss (w : World) (a : Option Addr) (len : Nat) (ss : List Stp) : Prop where
  leng : ss.length = len
  cell : ∀ (k : Nat) (s : Stp), ss[k]? = some s → ∃ b off, a = some ⟨b, off, none⟩ ∧ w.cell? ⟨b, off + k * 4, none⟩ = some (.int .i64 s.kind) ∧ w.cell? ⟨b, off + k * 4 + 1, none⟩ = some (.int .u64 (s.most : Int)) ∧
    w.cell? ⟨b, off + k * 4 + 2, none⟩ = some (.int .i64 s.low) ∧ w.cell? ⟨b, off + k * 4 + 3, none⟩ = some (.int .i64 s.high)
theorem Ss.ext {w w' : World} {a : Option Addr} {len : Nat} {ss : List Stp} (h : Ss w a len ss) (e : Ext w w') : Ss w' a len ss :=
  ⟨h.leng, fun k s hs => by
    obtain ⟨b, off, e0, e1, e2, e3, e4⟩ := h.cell k s hs
    exact ⟨b, off, e0, e.cell e1, e.cell e2, e.cell e3, e.cell e4⟩⟩
theorem open_steps1T {H : Type} {enc : TypeId × Value → H} {W : World} {base fuel : Nat} {hd : Bool} {v : Value} {d : DataW H} {p : List MemPlace} (h : DataW.trod enc Try.prog W base (fun _ => true) hd fuel 118 [v] = some (d, p)) :
    ∃ (a : Option Addr) (len cap : Nat) (ss : List Stp), v = .slice a len cap ∧ Ss W a len ss ∧ len ≤ cap ∧ (a = none → cap = 0) ∧ len ≤ Rows.uptoBulk d ∧ ∀ s ∈ ss, s.ok := by
  rcases open_slice Try.underlying118 h with ⟨hcs, hx⟩ | ⟨a, len, cap, m, n, D, Pl, hcs, hb, hl, hm, hmm, hx, hi⟩
  · simp only [List.cons.injEq, and_true] at hcs
    exact ⟨none, 0, 0, [], hcs, ⟨rfl, fun k s hs => by simp at hs⟩, Nat.le_refl _, fun _ => rfl, by omega, fun s hs => by cases hs⟩
  · simp only [List.cons.injEq, and_true] at hcs
    simp only [Prod.mk.injEq] at hx
    obtain ⟨rfl, rfl⟩ := hx
    simp only [if_true] at hmm
    subst hmm
    have c4 : Try.prog.cellsOf 123 = 4 := by kernel_rfl
    rw [c4] at hi
    have each : ∀ r, r < len → ∃ s : Stp, s.ok ∧ W.cell? (a.add (r * 4)) = some (.int .i64 s.kind) ∧ W.cell? ((a.add (r * 4)).add 1) = some (.int .u64 (s.most : Int)) ∧
        W.cell? ((a.add (r * 4)).add 2) = some (.int .i64 s.low) ∧ W.cell? ((a.add (r * 4)).add 3) = some (.int .i64 s.high) := by
      intro r hr
      obtain ⟨cs', hc, ht⟩ := hi r (by omega)
      obtain ⟨_, hcl, hat⟩ := World.cells?_some hc
      obtain ⟨y0, y1, y2, y3, n', _, _, h0, h1, h2, h3⟩ := trod_struct4 Try.underlying123 ht
      match cs', hcl with
      | [v0, v1, v2, v3], _ =>
        have k3 : Try.prog.cellsOf 3 = 1 := by kernel_rfl
        have k56 : Try.prog.cellsOf 56 = 1 := by kernel_rfl
        simp only [k3, k56] at h0 h1 h2 h3
        obtain ⟨x, hx, _, hw0⟩ := DataW.trod_int Try.underlying3 h0
        obtain ⟨t, ht', _, hw1⟩ := DataW.trod_int Try.underlying56 h1
        obtain ⟨o, ho, _, hw2⟩ := DataW.trod_int Try.underlying3 h2
        obtain ⟨s, hs, _, hw3⟩ := DataW.trod_int Try.underlying3 h3
        simp only [List.drop_zero, List.take_succ_cons, List.take_zero, List.drop_succ_cons, List.cons.injEq, and_true] at hx ht' ho hs
        subst hx ht' ho hs
        obtain ⟨mm, rfl, hmm⟩ := u64_rng hw1
        refine ⟨⟨x, mm, o, s⟩, ⟨bounds_i64 hw0, hmm, bounds_i64 hw2, bounds_i64 hw3⟩, ?_, hat 1 (by omega), hat 2 (by omega), hat 3 (by omega)⟩
        have := hat 0 (by omega)
        rw [add_add] at this
        exact this
    obtain ⟨y, hy⟩ := choose_lt each
    refine ⟨some a, len, m, (List.range len).map y, hcs, ⟨by simp, fun k s hs => ?_⟩, hl, (fun h => by cases h), ?_, fun x hx => ?_⟩
    · obtain ⟨ab, ao, spot⟩ := a
      have hkl : k < len := by
        have := (List.getElem?_eq_some_iff.1 hs).1
        simpa using this
      have hspot : spot = none := by simpa [Addr.add] using World.cell?_spot (hy 0 (by omega)).2.1
      subst hspot
      rw [List.getElem?_map, List.getElem?_range hkl] at hs
      simp only [Option.map_some, Option.some.injEq] at hs
      subst hs
      obtain ⟨_, e0, e1, e2, e3⟩ := hy k hkl
      rw [add_add] at e1 e2 e3
      rw [Addr.add_lit] at e0 e1 e2 e3
      exact ⟨ab, ao, rfl, e0, e1, e2, e3⟩
    · have := bulk_len ((List.range len).map D)
      rw [List.length_map, List.length_range] at this
      simp only [Rows.uptoBulk]
      omega
    · obtain ⟨r, hr, rfl⟩ := List.mem_map.1 hx
      exact (hy r (List.mem_range.1 hr)).1
end Go.Proofs.Ytknllmcpogoeoaa
