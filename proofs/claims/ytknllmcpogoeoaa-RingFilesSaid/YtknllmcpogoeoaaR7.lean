/- Two clocks compared by ==. -/
import Derived.Test.YtknllmcpogoeoaaR6
import Derived.DeepKeys
import Derived.Laws.StructEq
namespace Go.Proofs.Ytknllmcpogoeoaa
open Go.RowKit
set_option linter.unusedVariables false
set_option linter.unusedSimpArgs false
set_option maxRecDepth 100000
def wlits (xs : List Nat) : List Lit := xs.map fun (x : Nat) => Lit.int .u64 (x : Int)
theorem wlits_inj {xs ys : List Nat} (h : wlits xs = wlits ys) : xs = ys := by
  unfold wlits at h
  refine (List.map_inj_right (fun a b e => ?_)).1 h
  simp at e
  omega
theorem mapM_is {α β : Type} {f : α → Option β} {g : α → β} : ∀ (L : List α), (∀ i ∈ L, f i = some (g i)) → L.mapM f = some (L.map g)
  | [], _ => rfl
  | a :: L, h => by
    rw [List.mapM_cons, h a (List.mem_cons_self ..)]
    simp [mapM_is L (fun i hi => h i (List.mem_cons_of_mem _ hi))]
theorem cells86 : Try.prog.cellsOf 86 = 16 := by kernel_rfl
theorem cells56 : Try.prog.cellsOf 56 = 1 := by kernel_rfl
theorem cells88 : Try.prog.cellsOf 88 = 16 := by kernel_rfl
theorem keyl86 (xs : List Nat) (h16 : xs.length = 16) (hb : ∀ x ∈ xs, x < 18446744073709551616) (d : Nat) : Try.prog.keyLits (d + 2) 86 (u64s xs) = some (wlits xs) := by
  unfold Program.keyLits
  rw [under86]
  simp only [cells86, cells56, u64s_len, h16, if_true, Nat.mul_one]
  rw [mapM_is (g := fun i => [Lit.int .u64 ((xs[i]?.getD 0 : Nat) : Int)]) (List.range 16) (fun i hi => by
    have hi := List.mem_range.1 hi
    have e1 : ((u64s xs).drop i).take 1 = [Value.int .u64 ((xs[i]?.getD 0 : Nat) : Int)] := by
      have := u64s_get xs i (by omega)
      rw [List.drop_eq_getElem_cons (by rw [u64s_len]; omega)]
      rw [List.getElem?_eq_getElem (by rw [u64s_len]; omega)] at this
      simp only [Option.some.injEq] at this
      rw [this]; rfl
    rw [e1]
    unfold Program.keyLits
    rw [Try.underlying56]
    have hx : xs[i]?.getD 0 < 18446744073709551616 := by
      rw [List.getElem?_eq_getElem (by omega)]; exact hb _ (List.getElem_mem _)
    have hw : (Lit.int .u64 ((xs[i]?.getD 0 : Nat) : Int)).wf = true := by
      simp only [Lit.wf]
      rw [show IntKind.u64.min = 0 by decide, show IntKind.u64.max = 18446744073709551615 by decide]
      simp
      omega
    simp [hw])]
  simp only [Option.map_some, Option.some.injEq]
  apply List.ext_getElem?
  intro i
  have fl : ∀ (L : List Nat), (L.map fun i => [Lit.int .u64 ((xs[i]?.getD 0 : Nat) : Int)]).flatten = L.map fun i => Lit.int .u64 ((xs[i]?.getD 0 : Nat) : Int) := by
    intro L
    induction L with
    | nil => rfl
    | cons a r ih => simp [ih]
  rw [fl]
  unfold wlits
  by_cases hi : i < 16
  · rw [List.getElem?_map, List.getElem?_map, List.getElem?_range hi, List.getElem?_eq_getElem (show i < xs.length by omega)]
    simp [List.getElem?_eq_getElem (show i < xs.length by omega)]
  · rw [List.getElem?_eq_none (by simp; omega), List.getElem?_eq_none (by simp; omega)]
theorem keyl88 (xs : List Nat) (h16 : xs.length = 16) (hb : ∀ x ∈ xs, x < 18446744073709551616) : Try.prog.keyLits 3 88 (u64s xs) = some (wlits xs) := by
  unfold Program.keyLits
  rw [Try.underlying88]
  simp only [cells88, u64s_len, h16]
  rw [if_pos ⟨trivial, by decide +kernel⟩]
  simp only [List.mapM_cons, List.mapM_nil, cells86, List.drop_zero]
  rw [List.take_of_length_le (by rw [u64s_len]; omega), keyl86 xs h16 hb 0]
  simp
theorem eql88 (xs ys : List Nat) (hx : xs.length = 16) (hy : ys.length = 16) (bx : ∀ x ∈ xs, x < 18446744073709551616) (by_ : ∀ x ∈ ys, x < 18446744073709551616) (w : World) :
    (binOp .eql 88 (.agg (u64s xs).toArray) (.agg (u64s ys).toArray)).run Try.prog w = .ok (.bool (decide (xs = ys))) w := by
  have K := run_equalIn_deep (P := Try.prog) 9997 3 88 (by kernel_rfl)
  have fo : ∀ zs : List Nat, zs.length = 16 → (Value.agg (u64s zs).toArray).formed Try.prog 88 = true := by
    intro zs hz
    simp [Value.formed, Try.underlying88, cells88, u64s_len, hz]
  obtain ⟨r, hr, hi⟩ := K w 3 3 (.agg (u64s xs).toArray) (.agg (u64s ys).toArray) (wlits xs) (wlits ys) (fo xs hx) (fo ys hy) (by simpa [Value.cells] using keyl88 xs hx bx) (by simpa [Value.cells] using keyl88 ys hy by_)
  rw [run_eql_struct, hr]
  have : r = decide (xs = ys) := by
    cases r with
    | true => exact (decide_eq_true (wlits_inj (hi.1 rfl))).symm
    | false => exact (decide_eq_false (fun e => by have := hi.2 (by rw [e]); cases this)).symm
  rw [this]
  rfl
end Go.Proofs.Ytknllmcpogoeoaa
