/- How long what came in can be: the form's own reach, as the walks ask for it. -/
import Derived.Test.YtknllmcpogoeoaaK2
import Derived.SizedLaws
import Derived.Deep.Slices
namespace Go.Proofs.Ytknllmcpogoeoaa
open Go.ChangeShapes Go.WideShapes Go.ChangeAt Go.RowKit Go.Deep Go.Joins
set_option maxRecDepth 100000
section
variable {H : Type} {enc : TypeId × Value → H} {W : World}
theorem reach_is : reachBytes = 140737488351232 := by decide
/-- what one argument weighs is within reach -/
theorem weigh {ts : List TypeId} {ds : List (DataW H)} (hz : (DataW.weightsEach Try.prog ts ds).all (· ≤ reachBytes) = true) (j : Nat) {t : TypeId} {d : DataW H} (ht : ts[j]? = some t) (hd : ds[j]? = some d) :
    ∀ n ∈ d.weights Try.prog t, n ≤ 140737488351232 := fun n hn => by
  have := List.all_eq_true.1 hz _ (DataW.weights_mem_each ht hd n hn)
  rw [← reach_is]
  simpa using this
/-- a slice's length, weighed -/
theorem slice_len {base fuel : Nat} {sp : Nat → Bool} {hd : Bool} {t e : TypeId} (ht : Try.prog.underlying t = some (.slice e)) {a : Option Addr} {len cap : Nat} {d : DataW H} {p : List MemPlace}
    (h : DataW.trod enc Try.prog W base sp hd fuel t [.slice a len cap] = some (d, p)) {B : Nat} (hB : ∀ n ∈ d.weights Try.prog t, n ≤ B) : len * Try.prog.bytesOf e ≤ B := by
  rcases open_slice ht h with ⟨hcs, hx⟩ | ⟨a', len', cap', m, n, D, Pl, hcs, _, hl, _, hm, hx, _⟩
  · simp only [List.cons.injEq, Value.slice.injEq, and_true] at hcs
    obtain ⟨_, rfl, _⟩ := hcs
    simp
  · simp only [List.cons.injEq, Value.slice.injEq, and_true] at hcs
    obtain ⟨_, rfl, rfl⟩ := hcs
    simp only [Prod.mk.injEq] at hx
    obtain ⟨rfl, _⟩ := hx
    have h1 := hB ((len + (m - len)) * Try.prog.bytesOf e) (by simp [DataW.weights, ht])
    have h2 : len * Try.prog.bytesOf e ≤ (len + (m - len)) * Try.prog.bytesOf e := Nat.mul_le_mul_right _ (by omega)
    omega
theorem slice_lenT {base : Nat} {sp : Nat → Bool} {hd : Bool} {t e : TypeId} (ht : Try.prog.underlying t = some (.slice e)) {a : Option Addr} {len cap : Nat} {d : DataW H} {p : List MemPlace}
    (h : DataW.Trod enc Try.prog W base sp hd t (.slice a len cap) d p) {B : Nat} (hB : ∀ n ∈ d.weights Try.prog t, n ≤ B) : len * Try.prog.bytesOf e ≤ B := by
  obtain ⟨fuel, hf⟩ := h
  exact slice_len ht (show DataW.trod enc Try.prog W base sp hd fuel t [.slice a len cap] = some (d, p) from hf) hB
theorem bytes22 : Try.prog.bytesOf 22 = 24 := by kernel_rfl
theorem bytes5 : Try.prog.bytesOf 5 = 1 := by kernel_rfl
/-- a slice of bytes -/
theorem len_bs {base : Nat} {sp : Nat → Bool} {hd : Bool} {a : Option Addr} {len cap : Nat} {d : DataW H} {p : List MemPlace}
    (h : DataW.Trod enc Try.prog W base sp hd 22 (.slice a len cap) d p) (hB : ∀ n ∈ d.weights Try.prog 22, n ≤ 140737488351232) : len ≤ 140737488351232 := by
  have := slice_lenT Try.underlying22 h hB
  rw [bytes5] at this
  omega
theorem weigh_all {e : TypeId} {l : List (DataW H)} {d : DataW H} (h : d ∈ l) {n : Nat} (hn : n ∈ d.weights Try.prog e) : n ∈ DataW.weightsAll Try.prog e l := by
  induction l with
  | nil => cases h
  | cons a l ih =>
    simp only [DataW.weightsAll, List.mem_append]
    rcases List.mem_cons.1 h with rfl | h
    · exact Or.inl hn
    · exact Or.inr (ih h)
/-- a slice of byte slices, read within reach -/
theorem open_lsW {base fuel : Nat} {hd : Bool} {v : Value} {d : DataW H} {p : List MemPlace} (h : DataW.trod enc Try.prog W base (fun _ => true) hd fuel 37 [v] = some (d, p)) (hB : ∀ n ∈ d.weights Try.prog 37, n ≤ 140737488351232) :
    ∃ (a : Option Addr) (len cap : Nat) (ls : List (List UInt8)), v = .slice a len cap ∧ Ls W a len ls ∧ len ≤ cap ∧ (a = none → cap = 0) ∧ len ≤ 140737488351232 ∧ ∀ x ∈ ls, x.length ≤ 140737488351232 := by
  have h0 := h
  rcases open_slice1 Try.underlying37 cells22 h with ⟨hcs, hx⟩ | ⟨a, len, cap, m, n, V, D, Pl, hcs, hb, hl, hm, hmm, hx, hi⟩
  · simp only [List.cons.injEq, and_true] at hcs
    exact ⟨none, 0, 0, [], hcs, ⟨rfl, fun j hj => by omega⟩, Nat.le_refl _, fun _ => rfl, by omega, fun x hx => by cases hx⟩
  · simp only [List.cons.injEq, and_true] at hcs
    have hlen : len ≤ 140737488351232 := by
      rw [hcs] at h0
      have := slice_len Try.underlying37 h0 hB
      rw [bytes22] at this
      omega
    simp only [Prod.mk.injEq] at hx
    obtain ⟨rfl, rfl⟩ := hx
    simp only [if_true] at hmm
    subst hmm
    have each : ∀ r, r < len → ∃ y : List UInt8, Sl W (V r) y ∧ y.length ≤ 140737488351232 := by
      intro r hr
      obtain ⟨a1, n1, c1, l1, hv, hb1, h1, h2, h3⟩ := open_bsT (hi r (by omega)).2
      have h5 := (hi r (by omega)).2
      rw [hv] at h5
      have h4 : n1 ≤ 140737488351232 := by
        have := slice_len Try.underlying22 h5 (B := 140737488351232) (fun k hk => hB k (by
          simp only [DataW.weights, Try.underlying37]
          exact List.mem_cons_of_mem _ (List.mem_append_left _ (weigh_all (List.mem_map_of_mem (List.mem_range.2 hr)) hk))))
        rw [bytes5] at this
        omega
      exact ⟨l1, ⟨a1, n1, c1, hv, hb1, h1, h2, h4⟩, by rw [hb1.leng]; exact h4⟩
    obtain ⟨y, hy⟩ := choose_lt each
    refine ⟨some a, len, m, (List.range len).map y, hcs, ⟨by simp, fun k hk' => ?_⟩, hl, (fun h => by cases h), hlen, fun x hx => ?_⟩
    · obtain ⟨ab, ao, spot⟩ := a
      have hspot : spot = none := by simpa [Addr.add] using World.cell?_spot (hi 0 (by omega)).1
      subst hspot
      have hc := (hi k (by omega)).1
      rw [Addr.add_lit] at hc
      refine ⟨ab, ao, V k, rfl, hc, ?_⟩
      rw [List.getElem?_map, List.getElem?_range hk']
      exact (hy k hk').1
    · obtain ⟨r, hr, rfl⟩ := List.mem_map.1 hx
      exact (hy r (List.mem_range.1 hr)).2
/-- slices of numbers, of steps, of moves -/
theorem len_zs {base : Nat} {sp : Nat → Bool} {hd : Bool} {t e : TypeId} (ht : Try.prog.underlying t = some (.slice e)) {k : Nat} (hk : Try.prog.bytesOf e = k + 1) {a : Option Addr} {len cap : Nat} {d : DataW H} {p : List MemPlace}
    (h : DataW.Trod enc Try.prog W base sp hd t (.slice a len cap) d p) (hB : ∀ n ∈ d.weights Try.prog t, n ≤ 140737488351232) : len ≤ 140737488351232 := by
  have := slice_lenT ht h hB
  rw [hk, Nat.mul_add] at this
  omega
theorem lenT_zs {base fuel : Nat} {sp : Nat → Bool} {hd : Bool} {t e : TypeId} (ht : Try.prog.underlying t = some (.slice e)) {k : Nat} (hk : Try.prog.bytesOf e = k + 1) {a : Option Addr} {len cap : Nat} {d : DataW H} {p : List MemPlace}
    (h : DataW.trod enc Try.prog W base sp hd fuel t [.slice a len cap] = some (d, p)) (hB : ∀ n ∈ d.weights Try.prog t, n ≤ 140737488351232) : len ≤ 140737488351232 :=
  len_zs ht hk ⟨fuel, h⟩ hB
/-- a file of rootcauselaw29 -/
theorem len_file {r : Reach} {b0 : Nat} {base : Nat} {hd : Bool} {a : Option Addr} {len cap : Nat} {x : Value} {d : DataW H} {p : List MemPlace} (hv : Value.okWide Try.prog W r b0 148 (.agg #[.slice a len cap, x]))
    (h : DataW.Trod enc Try.prog W base (fun _ => true) hd 148 (.agg #[.slice a len cap, x]) d p) (hB : ∀ n ∈ d.weights Try.prog 148, n ≤ 140737488351232) : len ≤ 140737488351232 := by
  obtain ⟨v0, v1, y0, y1, n, hv', rfl, _, h0, h1⟩ := open_agg2 Try.underlying148 (by kernel_rfl) (by kernel_rfl) hv h
  simp only [Value.agg.injEq, Array.mk.injEq, List.cons.injEq, and_true] at hv'
  obtain ⟨rfl, rfl⟩ := hv'
  have := slice_len (d := y0.1) (p := y0.2) Try.underlying22 h0 (B := 140737488351232) (fun k hk => hB k (by simp [DataW.weights, Try.underlying148, DataW.weightsEach, hk]))
  rw [bytes5] at this
  omega
/-- a damage of rootcauselaw03 -/
theorem len_damage {r : Reach} {b0 : Nat} {base : Nat} {hd : Bool} {a : Option Addr} {len cap : Nat} {x : Value} {d : DataW H} {p : List MemPlace} (hv : Value.okWide Try.prog W r b0 50 (.agg #[x, .slice a len cap]))
    (h : DataW.Trod enc Try.prog W base (fun _ => true) hd 50 (.agg #[x, .slice a len cap]) d p) (hB : ∀ n ∈ d.weights Try.prog 50, n ≤ 140737488351232) : len ≤ 140737488351232 := by
  obtain ⟨v0, v1, y0, y1, n, hv', rfl, _, h0, h1⟩ := open_agg2 Try.underlying50 (by kernel_rfl) (by kernel_rfl) hv h
  simp only [Value.agg.injEq, Array.mk.injEq, List.cons.injEq, and_true] at hv'
  obtain ⟨rfl, rfl⟩ := hv'
  have := slice_len (d := y1.1) (p := y1.2) Try.underlying22 h1 (B := 140737488351232) (fun k hk => hB k (by simp [DataW.weights, Try.underlying50, DataW.weightsEach, hk]))
  rw [bytes5] at this
  omega
theorem bytes77 : ∃ e, Try.prog.underlying 78 = some (.slice e) ∧ Try.prog.bytesOf e = 16 := ⟨_, Try.underlying78, by kernel_rfl⟩
/-- a play of rootcauselaw26 -/
theorem len_play {r : Reach} {b0 : Nat} {base : Nat} {hd : Bool} {a : Option Addr} {len cap : Nat} {x y : Value} {d : DataW H} {p : List MemPlace} (hv : Value.okWide Try.prog W r b0 80 (.agg #[x, y, .slice a len cap]))
    (h : DataW.Trod enc Try.prog W base (fun _ => true) hd 80 (.agg #[x, y, .slice a len cap]) d p) (hB : ∀ n ∈ d.weights Try.prog 80, n ≤ 140737488351232) : len * 16 ≤ 140737488351232 := by
  obtain ⟨v0, v1, v2, y0, y1, y2, n, hv', rfl, _, h0, h1, h2⟩ := open_agg3 Try.underlying80 (by kernel_rfl) (by kernel_rfl) hv h
  simp only [Value.agg.injEq, Array.mk.injEq, List.cons.injEq, and_true] at hv'
  obtain ⟨rfl, rfl, rfl⟩ := hv'
  obtain ⟨e, he, h16⟩ := bytes77
  have := slice_len (d := y2.1) (p := y2.2) he h2 (B := 140737488351232) (fun k hk => hB k (by simp [DataW.weights, Try.underlying80, DataW.weightsEach, hk]))
  rw [h16] at this
  exact this
end
end Go.Proofs.Ytknllmcpogoeoaa
