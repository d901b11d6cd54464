/- Opening arguments that are slices of byte slices, and slices of integers. -/
import Derived.Test.YtknllmcpogoeoaaK
import Derived.Deep.Matrix
import Derived.Lib.SmallJoins
namespace Go.Proofs.Ytknllmcpogoeoaa
open Go.ChangeShapes Go.WideShapes Go.ChangeAt Go.RowKit Go.Deep Go.Joins
set_option linter.unusedVariables false
set_option maxRecDepth 100000
theorem bulk_one {H : Type} (x : DataW H) : 1 ≤ Rows.uptoBulk x := by
  cases x with
  | lit l => cases l <;> simp [Rows.uptoBulk]
  | _ => simp [Rows.uptoBulk]
theorem bulk_len {H : Type} : ∀ (l : List (DataW H)), l.length ≤ Rows.uptoBulkAll l
  | [] => by simp [Rows.uptoBulkAll]
  | x :: r => by
    have := bulk_one x
    have := bulk_len r
    simp only [Rows.uptoBulkAll, List.length_cons]; omega
theorem bulk_mem {H : Type} : ∀ (l : List (DataW H)) (x : DataW H), x ∈ l → Rows.uptoBulk x ≤ Rows.uptoBulkAll l
  | y :: r, x, h => by
    simp only [Rows.uptoBulkAll]
    rcases List.mem_cons.1 h with rfl | h
    · omega
    · have := bulk_mem r x h; omega
/-- the slice at a with len elements reads as the numbers zs of kind k -/
structure Zs (w : World) (k : IntKind) (a : Option Addr) (len : Nat) (zs : List Int) : Prop where
  leng : zs.length = len
  cell : ∀ j, j < len → ∃ b off, a = some ⟨b, off, none⟩ ∧ w.cell? ⟨b, off + j, none⟩ = some (.int k (zs[j]?.getD 0))
theorem Zs.ext {w0 w : World} {k : IntKind} {a : Option Addr} {len : Nat} {zs : List Int} (h : Zs w0 k a len zs) (e : Ext w0 w) : Zs w k a len zs :=
  ⟨h.leng, fun j hj => by
    obtain ⟨b, off, e1, hc⟩ := h.cell j hj
    exact ⟨b, off, e1, e.cell hc⟩⟩
theorem open_zsT {H : Type} {enc : TypeId × Value → H} {W : World} {base fuel : Nat} {hd : Bool} {t e : TypeId} {k : IntKind} (ht : Try.prog.underlying t = some (.slice e)) (he : Try.prog.underlying e = some (.int k)) (hc : Try.prog.cellsOf e = 1)
    {v : Value} {d : DataW H} {p : List MemPlace} (h : DataW.trod enc Try.prog W base (fun _ => true) hd fuel t [v] = some (d, p)) :
    ∃ (a : Option Addr) (len cap : Nat) (zs : List Int), v = .slice a len cap ∧ Zs W k a len zs ∧ len ≤ cap ∧ (a = none → cap = 0) ∧ len ≤ Rows.uptoBulk d ∧ ∀ z ∈ zs, (Lit.int k z).wf = true := by
  rcases open_ints ht he hc h with ⟨hcs, hx⟩ | ⟨a, len, cap, zs, hcs, _, hl, hm, hz, hx, hcell, hwz⟩
  · simp only [List.cons.injEq, and_true] at hcs
    exact ⟨none, 0, 0, [], hcs, ⟨rfl, fun j hj => by omega⟩, Nat.le_refl _, fun _ => rfl, by omega, fun z hz => by cases hz⟩
  · simp only [List.cons.injEq, and_true] at hcs
    simp only [Prod.mk.injEq] at hx
    obtain ⟨rfl, rfl⟩ := hx
    simp only [if_true] at hz
    refine ⟨some a, len, cap, zs.take len, hcs, ⟨by simp; omega, fun j hj => ?_⟩, hl, (fun h => by cases h), ?_, fun z hz => hwz z (List.mem_of_mem_take hz)⟩
    · obtain ⟨ab, ao, spot⟩ := a
      have hspot : spot = none := by simpa [Addr.add] using World.cell?_spot (hcell 0 (by omega))
      subst hspot
      refine ⟨ab, ao, rfl, ?_⟩
      have hcj := hcell j (by omega)
      rw [Addr.add_lit] at hcj
      rw [hcj, List.getD_eq_getElem?_getD, List.getElem?_take, if_pos hj]
    · have h2 := bulk_len (lits (H := H) k (zs.take len))
      simp only [Rows.uptoBulk]
      have h3 : (lits (H := H) k (zs.take len)).length = len := by simp [lits]; omega
      omega
theorem open_bsT {H : Type} {enc : TypeId × Value → H} {W : World} {base fuel : Nat} {hd : Bool} {v : Value} {d : DataW H} {p : List MemPlace} (h : DataW.trod enc Try.prog W base (fun _ => true) hd fuel 22 [v] = some (d, p)) :
    ∃ (a : Option Addr) (len cap : Nat) (l : List UInt8), v = .slice a len cap ∧ Bs W a len l ∧ len ≤ cap ∧ (a = none → cap = 0) ∧ len ≤ Rows.uptoBulk d := by
  obtain ⟨a, len, cap, zs, rfl, hz, h1, h2, h3, hw⟩ := open_zsT Try.underlying22 Try.underlying5 cells5 h
  refine ⟨a, len, cap, zs.map fun n => UInt8.ofNat n.toNat, rfl, ⟨by simp [hz.leng], fun j hj => ?_⟩, h1, h2, h3⟩
  obtain ⟨b, off, e, hc⟩ := hz.cell j hj
  refine ⟨b, off, e, ?_⟩
  rw [hc]
  have hj' : j < zs.length := by rw [hz.leng]; exact hj
  have hb := range_u8 hw j
  unfold nb
  rw [List.getElem?_map, List.getElem?_eq_getElem hj'] at *
  simp only [Option.map_some, Option.getD_some, UInt8.toNat_ofNat'] at hb ⊢
  congr 2
  omega
/-- a slice of byte slices -/
theorem open_lsT {H : Type} {enc : TypeId × Value → H} {W : World} {base fuel : Nat} {hd : Bool} {v : Value} {d : DataW H} {p : List MemPlace} (h : DataW.trod enc Try.prog W base (fun _ => true) hd fuel 37 [v] = some (d, p)) (hk : Rows.uptoBulk d ≤ 1048576) :
    ∃ (a : Option Addr) (len cap : Nat) (ls : List (List UInt8)), v = .slice a len cap ∧ Ls W a len ls ∧ len ≤ cap ∧ (a = none → cap = 0) ∧ len ≤ Rows.uptoBulk d ∧ ∀ x ∈ ls, x.length ≤ Rows.uptoBulk d := by
  rcases open_slice1 Try.underlying37 cells22 h with ⟨hcs, hx⟩ | ⟨a, len, cap, m, n, V, D, Pl, hcs, hb, hl, hm, hmm, hx, hi⟩
  · simp only [List.cons.injEq, and_true] at hcs
    exact ⟨none, 0, 0, [], hcs, ⟨rfl, fun j hj => by omega⟩, Nat.le_refl _, fun _ => rfl, by omega, fun x hx => by cases hx⟩
  · simp only [List.cons.injEq, and_true] at hcs
    simp only [Prod.mk.injEq] at hx
    obtain ⟨rfl, rfl⟩ := hx
    simp only [if_true] at hmm
    subst hmm
    simp only [Rows.uptoBulk] at hk ⊢
    have hlen := bulk_len ((List.range len).map D)
    rw [List.length_map, List.length_range] at hlen
    have each : ∀ r, r < len → ∃ y : List UInt8, Sl W (V r) y ∧ y.length ≤ Rows.uptoBulkAll ((List.range len).map D) := by
      intro r hr
      obtain ⟨a1, n1, c1, l1, hv, hb1, h1, h2, h3⟩ := open_bsT (hi r (by omega)).2
      have hmem := bulk_mem ((List.range len).map D) (D r) (List.mem_map_of_mem (List.mem_range.2 hr))
      exact ⟨l1, ⟨a1, n1, c1, hv, hb1, h1, h2, by omega⟩, by rw [hb1.leng]; omega⟩
    obtain ⟨y, hy⟩ := choose_lt each
    refine ⟨some a, len, m, (List.range len).map y, hcs, ⟨by simp, fun k hk' => ?_⟩, hl, (fun h => by cases h), by omega, fun x hx => ?_⟩
    · obtain ⟨ab, ao, spot⟩ := a
      have hspot : spot = none := by simpa [Addr.add] using World.cell?_spot (hi 0 (by omega)).1
      subst hspot
      have hc := (hi k (by omega)).1
      rw [Addr.add_lit] at hc
      refine ⟨ab, ao, V k, rfl, hc, ?_⟩
      rw [List.getElem?_map, List.getElem?_range hk']
      exact (hy k hk').1
    · obtain ⟨r, hr, rfl⟩ := List.mem_map.1 hx
      have := (hy r (List.mem_range.1 hr)).2
      omega
theorem okWide_cells1 {W : World} {r : Reach} {b0 : Nat} {t e : TypeId} {v : Value} (ht : Try.prog.underlying t = some (.slice e)) (hv : Value.okWide Try.prog W r b0 t v) : v.cells.toList = [v] := by
  obtain ⟨a, len, cap, rfl⟩ := okWide_slice ht hv
  rfl
theorem u16_rng {n : Int} (h : (Lit.int .u16 n).wf = true) : ∃ m : Nat, n = (m : Int) ∧ m ≤ 65535 := by
  have := bounds_u16 h
  exact ⟨n.toNat, by omega, by omega⟩
theorem u32_rng {n : Int} (h : (Lit.int .u32 n).wf = true) : ∃ m : Nat, n = (m : Int) ∧ m ≤ 4294967295 := by
  have := bounds_u32 h
  exact ⟨n.toNat, by omega, by omega⟩
theorem u64_rng {n : Int} (h : (Lit.int .u64 n).wf = true) : ∃ m : Nat, n = (m : Int) ∧ m < 18446744073709551616 := by
  have := bounds_u64 h
  exact ⟨n.toNat, by omega, by omega⟩
theorem u8_rng {n : Int} (h : (Lit.int .u8 n).wf = true) : ∃ m : Nat, n = (m : Int) ∧ m ≤ 255 := by
  have := bounds_u8 h
  exact ⟨n.toNat, by omega, by omega⟩
/-- rootcauselaw03.Damage -/
theorem open_damage {H : Type} {enc : TypeId × Value → H} {W : World} {base : Nat} {hd : Bool} {r : Reach} {b0 : Nat} {v : Value} {d : DataW H} {p : List MemPlace} (hv : Value.okWide Try.prog W r b0 50 v) (h : DataW.Trod enc Try.prog W base (fun _ => true) hd 50 v d p) :
    ∃ (x : Nat) (a : Option Addr) (len cap : Nat) (l : List UInt8), v = .agg #[.int .u16 (x : Int), .slice a len cap] ∧ x ≤ 65535 ∧ Bs W a len l ∧ len ≤ cap ∧ (a = none → cap = 0) ∧ len ≤ Rows.uptoBulk d := by
  obtain ⟨v0, v1, y0, y1, n, rfl, rfl, rfl, h0, h1⟩ := open_agg2 Try.underlying50 (by kernel_rfl) (by kernel_rfl) hv h
  obtain ⟨x, hx, rfl, hw⟩ := DataW.trod_int Try.underlying47 h0
  simp only [List.cons.injEq, and_true] at hx
  subst hx
  obtain ⟨m, rfl, hm⟩ := u16_rng hw
  obtain ⟨a, len, cap, l, rfl, hb, h2, h3, h4⟩ := open_bsT (d := y1.1) (p := y1.2) h1
  refine ⟨m, a, len, cap, l, rfl, hm, hb, h2, h3, ?_⟩
  simp only [Rows.uptoBulk, Rows.uptoBulkAll]
  omega
/-- rootcauselaw03.Burst -/
theorem open_burst {H : Type} {enc : TypeId × Value → H} {W : World} {base : Nat} {hd : Bool} {r : Reach} {b0 : Nat} {v : Value} {d : DataW H} {p : List MemPlace} (hv : Value.okWide Try.prog W r b0 54 v) (h : DataW.Trod enc Try.prog W base (fun _ => true) hd 54 v d p) :
    ∃ (s : Bool) (x z : Nat), v = .agg #[.bool s, .int .u16 (x : Int), .int .u32 (z : Int)] ∧ x ≤ 65535 ∧ z ≤ 4294967295 := by
  obtain ⟨v0, v1, v2, y0, y1, y2, n, rfl, rfl, rfl, h0, h1, h2⟩ := open_agg3 Try.underlying54 (by kernel_rfl) (by kernel_rfl) hv h
  obtain ⟨s, hs, rfl⟩ := DataW.trod_bool Try.underlying4 h0
  simp only [List.cons.injEq, and_true] at hs
  subst hs
  obtain ⟨x, hx, rfl, hw⟩ := DataW.trod_int Try.underlying47 h1
  simp only [List.cons.injEq, and_true] at hx
  subst hx
  obtain ⟨m, rfl, hm⟩ := u16_rng hw
  obtain ⟨z, hz, rfl, hw2⟩ := DataW.trod_int Try.underlying52 h2
  simp only [List.cons.injEq, and_true] at hz
  subst hz
  obtain ⟨m2, rfl, hm2⟩ := u32_rng hw2
  exact ⟨s, m, m2, rfl, hm, hm2⟩
end Go.Proofs.Ytknllmcpogoeoaa
