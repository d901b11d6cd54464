/- How long what came in can be: the form's own reach, as the walks ask for it. -/
import Derived.Test.YtknllmcpogoeoaaDoorK2
import Derived.SizedLaws
import Derived.Deep.Slices
namespace Go.Proofs.YtknllmcpogoeoaaDoor
open Go.ChangeShapes Go.WideShapes Go.ChangeAt Go.RowKit Go.Deep Go.Joins
set_option maxRecDepth 100000
section
variable {H : Type} {enc : TypeId × Value → H} {W : World}
theorem reach_is : reachBytes = 140737488351232 := by decide
/-- what one argument weighs is within reach -/
theorem weigh {ts : List TypeId} {ds : List (DataW H)} (hz : (DataW.weightsEach Tryd.prog ts ds).all (· ≤ reachBytes) = true) (j : Nat) {t : TypeId} {d : DataW H} (ht : ts[j]? = some t) (hd : ds[j]? = some d) :
    ∀ n ∈ d.weights Tryd.prog t, n ≤ 140737488351232 := fun n hn => by
  have := List.all_eq_true.1 hz _ (DataW.weights_mem_each ht hd n hn)
  rw [← reach_is]
  simpa using this
/-- a slice's length, weighed -/
theorem slice_len {base fuel : Nat} {sp : Nat → Bool} {hd : Bool} {t e : TypeId} (ht : Tryd.prog.underlying t = some (.slice e)) {a : Option Addr} {len cap : Nat} {d : DataW H} {p : List MemPlace}
    (h : DataW.trod enc Tryd.prog W base sp hd fuel t [.slice a len cap] = some (d, p)) {B : Nat} (hB : ∀ n ∈ d.weights Tryd.prog t, n ≤ B) : len * Tryd.prog.bytesOf e ≤ B := by
  rcases open_slice ht h with ⟨hcs, hx⟩ | ⟨a', len', cap', m, n, D, Pl, hcs, _, hl, _, hm, hx, _⟩
  · simp only [List.cons.injEq, Value.slice.injEq, and_true] at hcs
    obtain ⟨_, rfl, _⟩ := hcs
    simp
  · simp only [List.cons.injEq, Value.slice.injEq, and_true] at hcs
    obtain ⟨_, rfl, rfl⟩ := hcs
    simp only [Prod.mk.injEq] at hx
    obtain ⟨rfl, _⟩ := hx
    have h1 := hB ((len + (m - len)) * Tryd.prog.bytesOf e) (by simp [DataW.weights, ht])
    have h2 : len * Tryd.prog.bytesOf e ≤ (len + (m - len)) * Tryd.prog.bytesOf e := Nat.mul_le_mul_right _ (by omega)
    omega
theorem slice_lenT {base : Nat} {sp : Nat → Bool} {hd : Bool} {t e : TypeId} (ht : Tryd.prog.underlying t = some (.slice e)) {a : Option Addr} {len cap : Nat} {d : DataW H} {p : List MemPlace}
    (h : DataW.Trod enc Tryd.prog W base sp hd t (.slice a len cap) d p) {B : Nat} (hB : ∀ n ∈ d.weights Tryd.prog t, n ≤ B) : len * Tryd.prog.bytesOf e ≤ B := by
  obtain ⟨fuel, hf⟩ := h
  exact slice_len ht (show DataW.trod enc Tryd.prog W base sp hd fuel t [.slice a len cap] = some (d, p) from hf) hB
theorem bytes22 : Tryd.prog.bytesOf 22 = 24 := by kernel_rfl
theorem bytes5 : Tryd.prog.bytesOf 5 = 1 := by kernel_rfl
/-- a slice of bytes -/
theorem len_bs {base : Nat} {sp : Nat → Bool} {hd : Bool} {a : Option Addr} {len cap : Nat} {d : DataW H} {p : List MemPlace}
    (h : DataW.Trod enc Tryd.prog W base sp hd 22 (.slice a len cap) d p) (hB : ∀ n ∈ d.weights Tryd.prog 22, n ≤ 140737488351232) : len ≤ 140737488351232 := by
  have := slice_lenT Tryd.underlying22 h hB
  rw [bytes5] at this
  omega
theorem weigh_all {e : TypeId} {l : List (DataW H)} {d : DataW H} (h : d ∈ l) {n : Nat} (hn : n ∈ d.weights Tryd.prog e) : n ∈ DataW.weightsAll Tryd.prog e l := by
  induction l with
  | nil => cases h
  | cons a l ih =>
    simp only [DataW.weightsAll, List.mem_append]
    rcases List.mem_cons.1 h with rfl | h
    · exact Or.inl hn
    · exact Or.inr (ih h)
/-- a slice of byte slices, read within reach -/
theorem open_lsW {base fuel : Nat} {hd : Bool} {v : Value} {d : DataW H} {p : List MemPlace} (h : DataW.trod enc Tryd.prog W base (fun _ => true) hd fuel 43 [v] = some (d, p)) (hB : ∀ n ∈ d.weights Tryd.prog 43, n ≤ 140737488351232) :
    ∃ (a : Option Addr) (len cap : Nat) (ls : List (List UInt8)), v = .slice a len cap ∧ Ls W a len ls ∧ len ≤ cap ∧ (a = none → cap = 0) ∧ len ≤ 140737488351232 ∧ ∀ x ∈ ls, x.length ≤ 140737488351232 := by
  have h0 := h
  rcases open_slice1 Tryd.underlying43 cells22 h with ⟨hcs, hx⟩ | ⟨a, len, cap, m, n, V, D, Pl, hcs, hb, hl, hm, hmm, hx, hi⟩
  · simp only [List.cons.injEq, and_true] at hcs
    exact ⟨none, 0, 0, [], hcs, ⟨rfl, fun j hj => by omega⟩, Nat.le_refl _, fun _ => rfl, by omega, fun x hx => by cases hx⟩
  · simp only [List.cons.injEq, and_true] at hcs
    have hlen : len ≤ 140737488351232 := by
      rw [hcs] at h0
      have := slice_len Tryd.underlying43 h0 hB
      rw [bytes22] at this
      omega
    simp only [Prod.mk.injEq] at hx
    obtain ⟨rfl, rfl⟩ := hx
    simp only [if_true] at hmm
    subst hmm
    have each : ∀ r, r < len → ∃ y : List UInt8, Sl W (V r) y ∧ y.length ≤ 140737488351232 := by
      intro r hr
      obtain ⟨a1, n1, c1, l1, hv, hb1, h1, h2, h3⟩ := open_bsT (hi r (by omega)).2
      have h5 := (hi r (by omega)).2
      rw [hv] at h5
      have h4 : n1 ≤ 140737488351232 := by
        have := slice_len Tryd.underlying22 h5 (B := 140737488351232) (fun k hk => hB k (by
          simp only [DataW.weights, Tryd.underlying43]
          exact List.mem_cons_of_mem _ (List.mem_append_left _ (weigh_all (List.mem_map_of_mem (List.mem_range.2 hr)) hk))))
        rw [bytes5] at this
        omega
      exact ⟨l1, ⟨a1, n1, c1, hv, hb1, h1, h2, h4⟩, by rw [hb1.leng]; exact h4⟩
    obtain ⟨y, hy⟩ := choose_lt each
    refine ⟨some a, len, m, (List.range len).map y, hcs, ⟨by simp, fun k hk' => ?_⟩, hl, (fun h => by cases h), hlen, fun x hx => ?_⟩
    · obtain ⟨ab, ao, spot⟩ := a
      have hspot : spot = none := by simpa [Addr.add] using World.cell?_spot (hi 0 (by omega)).1
      subst hspot
      have hc := (hi k (by omega)).1
      rw [Addr.add_lit] at hc
      refine ⟨ab, ao, V k, rfl, hc, ?_⟩
      rw [List.getElem?_map, List.getElem?_range hk']
      exact (hy k hk').1
    · obtain ⟨r, hr, rfl⟩ := List.mem_map.1 hx
      exact (hy r (List.mem_range.1 hr)).2
/-- slices of numbers, of steps, of moves -/
theorem len_zs {base : Nat} {sp : Nat → Bool} {hd : Bool} {t e : TypeId} (ht : Tryd.prog.underlying t = some (.slice e)) {k : Nat} (hk : Tryd.prog.bytesOf e = k + 1) {a : Option Addr} {len cap : Nat} {d : DataW H} {p : List MemPlace}
    (h : DataW.Trod enc Tryd.prog W base sp hd t (.slice a len cap) d p) (hB : ∀ n ∈ d.weights Tryd.prog t, n ≤ 140737488351232) : len ≤ 140737488351232 := by
  have := slice_lenT ht h hB
  rw [hk, Nat.mul_add] at this
  omega
theorem lenT_zs {base fuel : Nat} {sp : Nat → Bool} {hd : Bool} {t e : TypeId} (ht : Tryd.prog.underlying t = some (.slice e)) {k : Nat} (hk : Tryd.prog.bytesOf e = k + 1) {a : Option Addr} {len cap : Nat} {d : DataW H} {p : List MemPlace}
    (h : DataW.trod enc Tryd.prog W base sp hd fuel t [.slice a len cap] = some (d, p)) (hB : ∀ n ∈ d.weights Tryd.prog t, n ≤ 140737488351232) : len ≤ 140737488351232 :=
  len_zs ht hk ⟨fuel, h⟩ hB
end
end Go.Proofs.YtknllmcpogoeoaaDoor
