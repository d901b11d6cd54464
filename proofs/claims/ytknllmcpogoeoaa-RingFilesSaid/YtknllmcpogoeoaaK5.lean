/- Opening a play of rootcauselaw26. -/
import Derived.Test.YtknllmcpogoeoaaK4
import Derived.Test.YtknllmcpogoeoaaRs
namespace Go.Proofs.Ytknllmcpogoeoaa
open Go.ChangeShapes Go.WideShapes Go.ChangeAt Go.RowKit Go.Deep Go.Joins
set_option linter.unusedVariables false
set_option maxRecDepth 100000
def RStep.cells (s : RStep) : List Value := [.int .u8 (s.args : Int), .bool s.lost, .int .u16 (s.count : Int), .bool s.skip, .bool s.other, .int .i64 s.long]
structure Rt (w : World) (a : Option Addr) (len : Nat) (ss : List RStep) : Prop where
  leng : ss.length = len
  cell : ∀ (k : Nat) (s : RStep), ss[k]? = some s → s.ok ∧ ∃ b off, a = some ⟨b, off, none⟩ ∧ ∀ j u, s.cells[j]? = some u → w.cell? ⟨b, off + k * 6 + j, none⟩ = some u
theorem Rt.ext {w w' : World} {a : Option Addr} {len : Nat} {ss : List RStep} (h : Rt w a len ss) (e : Ext w w') : Rt w' a len ss :=
  ⟨h.leng, fun k s hs => by
    obtain ⟨ho, b, off, e0, hc⟩ := h.cell k s hs
    exact ⟨ho, b, off, e0, fun j u hu => e.cell (hc j u hu)⟩⟩
theorem trod_struct6 {P : Program} {H : Type} {enc : TypeId × Value → H} {w : World} {base : Nat} {spare : Nat → Bool} {held : Bool} {t : TypeId} {f0 f1 f2 f3 f4 f5 : Field} {fuel : Nat} {cs : List Value} {x : DataW H × List MemPlace} (ht : P.underlying t = some (.struct #[f0, f1, f2, f3, f4, f5])) (h : DataW.trod enc P w base spare held fuel t cs = some x) :
    ∃ y0 y1 y2 y3 y4 y5 n, x = (.agg [y0.1, y1.1, y2.1, y3.1, y4.1, y5.1], y0.2 ++ (y1.2 ++ (y2.2 ++ (y3.2 ++ (y4.2 ++ y5.2))))) ∧ cs.length = P.cellsOf t ∧ DataW.trod enc P w base spare held n f0.type ((cs.drop f0.offset).take (P.cellsOf f0.type)) = some y0 ∧
      DataW.trod enc P w base spare held n f1.type ((cs.drop f1.offset).take (P.cellsOf f1.type)) = some y1 ∧ DataW.trod enc P w base spare held n f2.type ((cs.drop f2.offset).take (P.cellsOf f2.type)) = some y2 ∧
      DataW.trod enc P w base spare held n f3.type ((cs.drop f3.offset).take (P.cellsOf f3.type)) = some y3 ∧ DataW.trod enc P w base spare held n f4.type ((cs.drop f4.offset).take (P.cellsOf f4.type)) = some y4 ∧
      DataW.trod enc P w base spare held n f5.type ((cs.drop f5.offset).take (P.cellsOf f5.type)) = some y5 := by
  obtain ⟨xs, n, _, rfl, hl, hlen, hf⟩ := DataW.trod_struct ht h
  match xs, hlen with
  | [y0, y1, y2, y3, y4, y5], _ => exact ⟨y0, y1, y2, y3, y4, y5, n, by simp, hl, by simpa using hf 0 f0 rfl, by simpa using hf 1 f1 rfl, by simpa using hf 2 f2 rfl, by simpa using hf 3 f3 rfl, by simpa using hf 4 f4 rfl, by simpa using hf 5 f5 rfl⟩
theorem open_rsteps {H : Type} {enc : TypeId × Value → H} {W : World} {base fuel : Nat} {hd : Bool} {v : Value} {d : DataW H} {p : List MemPlace} (h : DataW.trod enc Try.prog W base (fun _ => true) hd fuel 78 [v] = some (d, p)) :
    ∃ (a : Option Addr) (len cap : Nat) (ss : List RStep), v = .slice a len cap ∧ Rt W a len ss ∧ len ≤ cap ∧ (a = none → cap = 0) ∧ len ≤ Rows.uptoBulk d := by
  rcases open_slice Try.underlying78 h with ⟨hcs, hx⟩ | ⟨a, len, cap, m, n, D, Pl, hcs, hb, hl, hm, hmm, hx, hi⟩
  · simp only [List.cons.injEq, and_true] at hcs
    exact ⟨none, 0, 0, [], hcs, ⟨rfl, fun k s hs => by simp at hs⟩, Nat.le_refl _, fun _ => rfl, by omega⟩
  · simp only [List.cons.injEq, and_true] at hcs
    simp only [Prod.mk.injEq] at hx
    obtain ⟨rfl, rfl⟩ := hx
    simp only [if_true] at hmm
    subst hmm
    have c6 : Try.prog.cellsOf 193 = 6 := by kernel_rfl
    rw [c6] at hi
    have each : ∀ r, r < len → ∃ s : RStep, s.ok ∧ ∀ j u, s.cells[j]? = some u → W.cell? ((a.add (r * 6)).add j) = some u := by
      intro r hr
      obtain ⟨cs', hc, ht⟩ := hi r (by omega)
      obtain ⟨_, hcl, hat⟩ := World.cells?_some hc
      obtain ⟨y0, y1, y2, y3, y4, y5, n', _, _, h0, h1, h2, h3, h4, h5⟩ := trod_struct6 Try.underlying193 ht
      match cs', hcl with
      | [v0, v1, v2, v3, v4, v5], _ =>
        have k5 : Try.prog.cellsOf 5 = 1 := by kernel_rfl
        have k4 : Try.prog.cellsOf 4 = 1 := by kernel_rfl
        have k47 : Try.prog.cellsOf 47 = 1 := by kernel_rfl
        have k2 : Try.prog.cellsOf 2 = 1 := by kernel_rfl
        simp only [k5, k4, k47, k2] at h0 h1 h2 h3 h4 h5
        obtain ⟨x0, e0, _, w0⟩ := DataW.trod_int Try.underlying5 h0
        obtain ⟨x1, e1, _⟩ := DataW.trod_bool Try.underlying4 h1
        obtain ⟨x2, e2, _, w2⟩ := DataW.trod_int Try.underlying47 h2
        obtain ⟨x3, e3, _⟩ := DataW.trod_bool Try.underlying4 h3
        obtain ⟨x4, e4, _⟩ := DataW.trod_bool Try.underlying4 h4
        obtain ⟨x5, e5, _, w5⟩ := DataW.trod_int Try.underlying2 h5
        simp only [List.drop_zero, List.take_succ_cons, List.take_zero, List.drop_succ_cons, List.cons.injEq, and_true] at e0 e1 e2 e3 e4 e5
        subst e0 e1 e2 e3 e4 e5
        obtain ⟨m0, rfl, hm0⟩ := u8_rng w0
        obtain ⟨m2, rfl, hm2⟩ := u16_rng w2
        refine ⟨⟨m0, x1, m2, x3, x4, x5⟩, ⟨hm0, hm2, bounds_i64 w5⟩, fun j u hu => ?_⟩
        rw [show (⟨m0, x1, m2, x3, x4, x5⟩ : RStep).cells = [.int .u8 (m0 : Int), .bool x1, .int .u16 (m2 : Int), .bool x3, .bool x4, .int .i64 x5] from rfl] at hu
        have hj : j < 6 := (List.getElem?_eq_some_iff.1 hu).1
        have := hat j (by omega)
        rw [this]
        exact hu
    obtain ⟨y, hy⟩ := choose_lt each
    refine ⟨some a, len, m, (List.range len).map y, hcs, ⟨by simp, fun k s hs => ?_⟩, hl, (fun h => by cases h), ?_⟩
    · obtain ⟨ab, ao, spot⟩ := a
      have hkl : k < len := by
        have := (List.getElem?_eq_some_iff.1 hs).1
        simpa using this
      have hspot : spot = none := by simpa [Addr.add] using World.cell?_spot ((hy 0 (by omega)).2 0 _ rfl)
      subst hspot
      rw [List.getElem?_map, List.getElem?_range hkl] at hs
      simp only [Option.map_some, Option.some.injEq] at hs
      subst hs
      obtain ⟨ho, hc⟩ := hy k hkl
      refine ⟨ho, ab, ao, rfl, fun j u hu => ?_⟩
      have := hc j u hu
      rw [Addr.add_lit, Addr.add_lit] at this
      exact this
    · have := bulk_len ((List.range len).map D)
      rw [List.length_map, List.length_range] at this
      simp only [Rows.uptoBulk]
      omega
/-- rootcauselaw26.Play -/
theorem open_play {H : Type} {enc : TypeId × Value → H} {W : World} {base : Nat} {hd : Bool} {r : Reach} {b0 : Nat} {v : Value} {d : DataW H} {p : List MemPlace} (hv : Value.okWide Try.prog W r b0 80 v) (h : DataW.Trod enc Try.prog W base (fun _ => true) hd 80 v d p) :
    ∃ (x y : Nat) (a : Option Addr) (len cap : Nat) (ss : List RStep), v = .agg #[.int .u8 (x : Int), .int .u32 (y : Int), .slice a len cap] ∧ x ≤ 255 ∧ y ≤ 4294967295 ∧ Rt W a len ss ∧ len ≤ cap ∧ (a = none → cap = 0) ∧ len ≤ Rows.uptoBulk d := by
  obtain ⟨v0, v1, v2, y0, y1, y2, n, rfl, rfl, rfl, h0, h1, h2⟩ := open_agg3 Try.underlying80 (by kernel_rfl) (by kernel_rfl) hv h
  obtain ⟨x, hx, rfl, hw⟩ := DataW.trod_int Try.underlying5 h0
  simp only [List.cons.injEq, and_true] at hx
  subst hx
  obtain ⟨m, rfl, hm⟩ := u8_rng hw
  obtain ⟨y, hy, rfl, hw2⟩ := DataW.trod_int Try.underlying52 h1
  simp only [List.cons.injEq, and_true] at hy
  subst hy
  obtain ⟨m2, rfl, hm2⟩ := u32_rng hw2
  obtain ⟨a, len, cap, ss, rfl, hb, h2, h3, h4⟩ := open_rsteps (d := y2.1) (p := y2.2) h2
  refine ⟨m, m2, a, len, cap, ss, rfl, hm, hm2, hb, h2, h3, ?_⟩
  simp only [Rows.uptoBulk, Rows.uptoBulkAll]
  omega
end Go.Proofs.Ytknllmcpogoeoaa
