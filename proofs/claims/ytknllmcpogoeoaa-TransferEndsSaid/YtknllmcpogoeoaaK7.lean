/- Opening a file and the moves of rootcauselaw29. -/
import Derived.Test.YtknllmcpogoeoaaK4
namespace Go.Proofs.Ytknllmcpogoeoaa
open Go.ChangeShapes Go.WideShapes Go.ChangeAt Go.RowKit Go.Deep Go.Joins
set_option linter.unusedVariables false
set_option maxRecDepth 100000
/-- rootcauselaw29.File -/
theorem open_file {H : Type} {enc : TypeId × Value → H} {W : World} {base : Nat} {hd : Bool} {r : Reach} {b0 : Nat} {v : Value} {d : DataW H} {p : List MemPlace} (hv : Value.okWide Try.prog W r b0 148 v) (h : DataW.Trod enc Try.prog W base (fun _ => true) hd 148 v d p) :
    ∃ (a : Option Addr) (len cap : Nat) (l : List UInt8) (x : Nat), v = .agg #[.slice a len cap, .int .u8 (x : Int)] ∧ Bs W a len l ∧ len ≤ cap ∧ (a = none → cap = 0) ∧ len ≤ Rows.uptoBulk d ∧ x ≤ 255 := by
  obtain ⟨v0, v1, y0, y1, n, rfl, rfl, rfl, h0, h1⟩ := open_agg2 Try.underlying148 (by kernel_rfl) (by kernel_rfl) hv h
  obtain ⟨a, len, cap, l, rfl, hb, h2, h3, h4⟩ := open_bsT (d := y0.1) (p := y0.2) h0
  obtain ⟨x, hx, rfl, hw⟩ := DataW.trod_int Try.underlying5 h1
  simp only [List.cons.injEq, and_true] at hx
  subst hx
  obtain ⟨m, rfl, hm⟩ := u8_rng hw
  refine ⟨a, len, cap, l, m, rfl, hb, h2, h3, ?_, hm⟩
  simp only [Rows.uptoBulk, Rows.uptoBulkAll]
  omega
/-- a move of rootcauselaw29 -/
structure Mv where
  kind : Nat
  at_ : Nat
  stay : Bool
  bits : Nat
deriving Inhabited
def Mv.ok (s : Mv) : Prop := s.kind ≤ 255 ∧ s.at_ ≤ 65535 ∧ s.bits ≤ 4294967295
def Mv.cells (s : Mv) : List Value := [.int .u8 (s.kind : Int), .int .u16 (s.at_ : Int), .bool s.stay, .int .u32 (s.bits : Int)]
structure Ms (w : World) (a : Option Addr) (len : Nat) (ss : List Mv) : Prop where
  leng : ss.length = len
  cell : ∀ (k : Nat) (s : Mv), ss[k]? = some s → s.ok ∧ ∃ b off, a = some ⟨b, off, none⟩ ∧ ∀ j u, s.cells[j]? = some u → w.cell? ⟨b, off + k * 4 + j, none⟩ = some u
theorem Ms.ext {w w' : World} {a : Option Addr} {len : Nat} {ss : List Mv} (h : Ms w a len ss) (e : Ext w w') : Ms w' a len ss :=
  ⟨h.leng, fun k s hs => by
    obtain ⟨ho, b, off, e0, hc⟩ := h.cell k s hs
    exact ⟨ho, b, off, e0, fun j u hu => e.cell (hc j u hu)⟩⟩
theorem open_movesT {H : Type} {enc : TypeId × Value → H} {W : World} {base fuel : Nat} {hd : Bool} {v : Value} {d : DataW H} {p : List MemPlace} (h : DataW.trod enc Try.prog W base (fun _ => true) hd fuel 165 [v] = some (d, p)) :
    ∃ (a : Option Addr) (len cap : Nat) (ss : List Mv), v = .slice a len cap ∧ Ms W a len ss ∧ len ≤ cap ∧ (a = none → cap = 0) ∧ len ≤ Rows.uptoBulk d ∧ True := by
  rcases open_slice Try.underlying165 h with ⟨hcs, hx⟩ | ⟨a, len, cap, m, n, D, Pl, hcs, hb, hl, hm, hmm, hx, hi⟩
  · simp only [List.cons.injEq, and_true] at hcs
    exact ⟨none, 0, 0, [], hcs, ⟨rfl, fun k s hs => by simp at hs⟩, Nat.le_refl _, fun _ => rfl, by omega, trivial⟩
  · simp only [List.cons.injEq, and_true] at hcs
    simp only [Prod.mk.injEq] at hx
    obtain ⟨rfl, rfl⟩ := hx
    simp only [if_true] at hmm
    subst hmm
    have c4 : Try.prog.cellsOf 168 = 4 := by kernel_rfl
    rw [c4] at hi
    have each : ∀ r, r < len → ∃ s : Mv, s.ok ∧ ∀ j u, s.cells[j]? = some u → W.cell? ((a.add (r * 4)).add j) = some u := by
      intro r hr
      obtain ⟨cs', hc, ht⟩ := hi r (by omega)
      obtain ⟨_, hcl, hat⟩ := World.cells?_some hc
      obtain ⟨y0, y1, y2, y3, n', _, _, h0, h1, h2, h3⟩ := trod_struct4 Try.underlying168 ht
      match cs', hcl with
      | [v0, v1, v2, v3], _ =>
        have k5 : Try.prog.cellsOf 5 = 1 := by kernel_rfl
        have k47 : Try.prog.cellsOf 47 = 1 := by kernel_rfl
        have k4 : Try.prog.cellsOf 4 = 1 := by kernel_rfl
        have k52 : Try.prog.cellsOf 52 = 1 := by kernel_rfl
        simp only [k5, k47, k4, k52] at h0 h1 h2 h3
        obtain ⟨x0, e0, _, w0⟩ := DataW.trod_int Try.underlying5 h0
        obtain ⟨x1, e1, _, w1⟩ := DataW.trod_int Try.underlying47 h1
        obtain ⟨x2, e2, _⟩ := DataW.trod_bool Try.underlying4 h2
        obtain ⟨x3, e3, _, w3⟩ := DataW.trod_int Try.underlying52 h3
        simp only [List.drop_zero, List.take_succ_cons, List.take_zero, List.drop_succ_cons, List.cons.injEq, and_true] at e0 e1 e2 e3
        subst e0 e1 e2 e3
        obtain ⟨m0, rfl, hm0⟩ := u8_rng w0
        obtain ⟨m1, rfl, hm1⟩ := u16_rng w1
        obtain ⟨m3, rfl, hm3⟩ := u32_rng w3
        refine ⟨⟨m0, m1, x2, m3⟩, ⟨hm0, hm1, hm3⟩, fun j u hu => ?_⟩
        rw [show (⟨m0, m1, x2, m3⟩ : Mv).cells = [.int .u8 (m0 : Int), .int .u16 (m1 : Int), .bool x2, .int .u32 (m3 : Int)] from rfl] at hu
        have hj : j < 4 := (List.getElem?_eq_some_iff.1 hu).1
        have := hat j (by omega)
        rw [this]
        exact hu
    obtain ⟨y, hy⟩ := choose_lt each
    refine ⟨some a, len, m, (List.range len).map y, hcs, ⟨by simp, fun k s hs => ?_⟩, hl, (fun h => by cases h), ?_, trivial⟩
    · obtain ⟨ab, ao, spot⟩ := a
      have hkl : k < len := by
        have := (List.getElem?_eq_some_iff.1 hs).1
        simpa using this
      have hspot : spot = none := by simpa [Addr.add] using World.cell?_spot ((hy 0 (by omega)).2 0 _ rfl)
      subst hspot
      rw [List.getElem?_map, List.getElem?_range hkl] at hs
      simp only [Option.map_some, Option.some.injEq] at hs
      subst hs
      obtain ⟨ho, hc⟩ := hy k hkl
      refine ⟨ho, ab, ao, rfl, fun j u hu => ?_⟩
      have := hc j u hu
      rw [Addr.add_lit, Addr.add_lit] at this
      exact this
    · have := bulk_len ((List.range len).map D)
      rw [List.length_map, List.length_range] at this
      simp only [Rows.uptoBulk]
      omega
end Go.Proofs.Ytknllmcpogoeoaa
