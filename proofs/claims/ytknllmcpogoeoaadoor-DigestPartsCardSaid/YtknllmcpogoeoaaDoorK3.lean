/- Opening an argument that is an array of 32 bytes, handed by value. -/
import Derived.Test.YtknllmcpogoeoaaDoorK2
namespace Go.Proofs.YtknllmcpogoeoaaDoor
open Go.ChangeShapes Go.WideShapes Go.ChangeAt Go.RowKit Go.Deep Go.Joins
set_option linter.unusedVariables false
set_option maxRecDepth 100000
theorem cells25 : Tryd.prog.cellsOf 25 = 32 := by kernel_rfl
theorem under25 : Tryd.prog.underlying 25 = some (.array 32 5) := by kernel_rfl
theorem mapM_each {α β : Type} {f : α → Option β} : ∀ (L : List α) (ys : List β), L.mapM f = some ys → ∀ i ∈ L, ∃ y, f i = some y
  | [], ys, h, i, hi => by cases hi
  | a :: L, ys, h, i, hi => by
    rw [List.mapM_cons] at h
    simp only [bind, Option.bind_eq_some_iff, pure, Option.some.injEq] at h
    obtain ⟨y, hy, zs, hzs, _⟩ := h
    rcases List.mem_cons.1 hi with rfl | hi
    · exact ⟨y, hy⟩
    · exact mapM_each L zs hzs i hi
theorem open_a32 {H : Type} {enc : TypeId × Value → H} {W : World} {base : Nat} {v : Value} {d : DataW H} {p : List MemPlace} (hval : Value.okWide Tryd.prog W .any base 25 v) (h : DataW.Trod enc Tryd.prog W 0 (fun _ => true) true 25 v d p) :
    ∃ l : List UInt8, v = .agg (u8s l).toArray ∧ l.length = 32 := by
  simp only [Value.okWide, under25] at hval
  obtain ⟨cs, rfl, hs, _⟩ := hval
  rw [cells25] at hs
  obtain ⟨fuel, hf⟩ := h
  cases fuel with
  | zero => simp [DataW.trod] at hf
  | succ m =>
    rw [DataW.trod_step] at hf
    unfold DataW.trodStep at hf
    simp only [under25, Value.cells] at hf
    rw [if_pos (by rw [cells25]; simpa using hs)] at hf
    simp only [Option.map_eq_some_iff] at hf
    obtain ⟨ys, hy, _⟩ := hf
    have each : ∀ r, r < 32 → ∃ y : UInt8, cs.toList[r]? = some (.int .u8 (y.toNat : Int)) := by
      intro r hr
      obtain ⟨z, hz⟩ := mapM_each _ _ hy r (List.mem_range.2 hr)
      obtain ⟨a, ea, _, wa⟩ := DataW.trod_int Tryd.underlying5 hz
      obtain ⟨x, rfl, hx⟩ := u8_rng wa
      rw [cells5, Nat.mul_one] at ea
      have e2 := congrArg (fun l => l[0]?) ea
      simp only [List.getElem?_take, List.getElem?_drop, Nat.lt_one_iff, if_true, Nat.add_zero, List.getElem?_cons_zero] at e2
      refine ⟨UInt8.ofNat x, ?_⟩
      rw [e2, UInt8.toNat_ofNat', Nat.mod_eq_of_lt (by omega)]
    obtain ⟨y, hy2⟩ := choose_lt each
    refine ⟨(List.range 32).map y, ?_, by simp⟩
    congr 1
    apply Array.ext'
    apply List.ext_getElem?
    intro r
    by_cases hr : r < 32
    · rw [hy2 r hr]
      simp [u8s, hr]
    · rw [List.getElem?_eq_none (by simpa [hs] using Nat.le_of_not_lt hr), List.getElem?_eq_none (by simp [u8s]; omega)]
end Go.Proofs.YtknllmcpogoeoaaDoor
