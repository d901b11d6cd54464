/- The reference's Put, walked. -/
import Derived.Test.YtknllmcpogoeoaaR21
namespace Go.Proofs.Ytknllmcpogoeoaa
open Go.RowKit
set_option linter.unusedVariables false
set_option linter.unusedSimpArgs false
set_option maxRecDepth 100000
section
variable {P : Program} {a : Act} {N : Nat} {l : List (Nat × Value)} {w : World}
theorem retctt {fn : Func} {p p2 p3 : Nat} {ty t : TypeId} {R : Ending → World → Prop} {g : Nat} {cs : Array Value} {d : TypeDesc} {v2 v3 : Value} (H : Has a N l) (hr : fn.results = #[.cell p ty, .tmp p2, .tmp p3]) (e : lk l p = some (.pointer (some ⟨g, 0, none⟩))) (e2 : lk l p2 = some v2) (e3 : lk l p3 = some v3)
    (hg : w.heap[g]? = some (.cells cs t (0, 0))) (hu : P.underlying ty = some d) (hd : (match d with | .struct _ | .array _ _ => true | _ => false) = true) (hi : (P.info? ty).map (·.size) = some cs.size)
    (h : R (.returned (.tuple #[.agg cs, v2, v3])) w) : bodyPost P fn R .ret a w := by
  have hp : a.tmps[p]?.getD undef = .pointer (some ⟨g, 0, none⟩) := by rw [H.at_ p _ e]; rfl
  have hp2 : a.tmps[p2]?.getD undef = v2 := by rw [H.at_ p2 _ e2]; rfl
  have hp3 : a.tmps[p3]?.getD undef = v3 := by rw [H.at_ p3 _ e3]; rfl
  exact bodyPost_ret (v := .tuple #[.agg cs, v2, v3]) (by simp [results, hr, hp, hp2, hp3, asAddr, run_loadVar_row w g t ty cs (0, 0) d hg hu hd hi]) H.nod h
end
section
variable {P : Program} {a : Act} {N : Nat} {l : List (Nat × Value)} {w w1 w2 w3 : World} {o o2 o3 : Oper} {v v2 v3 : Value} {R : Act → World → Prop} {ops : Array Oper} {d d2 d3 fuel : Nat} {listed : Array Bool} {md : Region.Mode} {S : World → Prop}
theorem g_three (i j m : Nat) (H : Has a N l) (hr : Region.ready md ops listed = [i, j, m])
    (hi : ops[i]? = some o) (hw : Region.wanted o (yielded ops a.tmps) = true) (hd : o.dst = some d) (hdN : d < N) (hy : (execOp a.eval o).run P w = .ok (.value v) w1) (hE : S w1)
    (hj : ops[j]? = some o2) (hw2 : Region.wanted o2 (yielded ops a.tmps) = true) (hd2 : o2.dst = some d2) (hdN2 : d2 < N) (hy2 : (execOp a.eval o2).run P w = .ok (.value v2) w2) (hE2 : S w2)
    (hm : ops[m]? = some o3) (hw3 : Region.wanted o3 (yielded ops a.tmps) = true) (hd3 : o3.dst = some d3) (hdN3 : d3 < N) (hy3 : (execOp a.eval o3).run P w = .ok (.value v3) w3) (hE3 : S w3)
    (k : ∀ a, Has a N ((d, v) :: l) → wpAnyH P md ops (OnlyN R) S fuel (listed.setIfInBounds i true) a w1)
    (k2 : ∀ a, Has a N ((d2, v2) :: l) → wpAnyH P md ops (OnlyN R) S fuel (listed.setIfInBounds j true) a w2)
    (k3 : ∀ a, Has a N ((d3, v3) :: l) → wpAnyH P md ops (OnlyN R) S fuel (listed.setIfInBounds m true) a w3) : wpAnyH P md ops (OnlyN R) S (fuel + 1) listed a w := by
  refine wpAnyH_ready hr (by simp) (AllReadyH.cons hi (fun K hK => ?_) (AllReadyH.cons hj (fun K hK => ?_) (AllReadyH.cons hm (fun K hK => ?_) AllReadyH.nil)))
  · rw [if_pos hw]; unfold Oper.wp; rw [hy, Oper.upon_value, hd]; exact hK.out _ _ hE (fun _ => k _ (H.put hdN))
  · rw [if_pos hw2]; unfold Oper.wp; rw [hy2, Oper.upon_value, hd2]; exact hK.out _ _ hE2 (fun _ => k2 _ (H.put hdN2))
  · rw [if_pos hw3]; unfold Oper.wp; rw [hy3, Oper.upon_value, hd3]; exact hK.out _ _ hE3 (fun _ => k3 _ (H.put hdN3))
end
theorem bs133e (w : World) : (Instr.buildSlice 133 0 #[]).run Try.prog w = .ok (.slice (some ⟨w.heap.size, 0, none⟩) 0 0) (w.alloc (.cells #[] 141)) := by kernel_rfl
theorem bs133 (x : Itm) (w : World) : (Instr.buildSlice 133 1 #[(0, .agg x.cells.toArray)]).run Try.prog w = .ok (.slice (some ⟨w.heap.size, 0, none⟩) 1 1) (w.alloc (.cells x.cells.toArray 141)) := by kernel_rfl
theorem itm_one (x : Itm) : ∀ y ∈ x.cells, y.oneCell' = true := by
  intro y hy
  unfold Itm.cells at hy
  simp only [List.mem_cons, List.not_mem_nil, or_false] at hy
  rcases hy with h | h | h | h | h <;> rw [h] <;> rfl
theorem itsC_len (xs : List Itm) : (itsC xs).length = xs.length * 5 := by
  induction xs with
  | nil => rfl
  | cons x r ih => unfold itsC at ih ⊢; rw [List.flatMap_cons, List.length_append, ih, List.length_cons, show x.cells.length = 5 from rfl]; omega
theorem itsC_one (xs : List Itm) : ∀ y ∈ itsC xs, y.oneCell' = true := by
  intro y hy
  unfold itsC at hy
  obtain ⟨x, _, hx⟩ := List.mem_flatMap.1 hy
  exact itm_one x y hx
/-- all items of a slice onto an empty slice of the call's own -/
theorem run_copyIts {w : World} {B B2 g : Nat} {va : Option Addr} {n c : Nat} {xs : List Itm} (ho : w.ownsRow B 141 5 (.slice (some ⟨g, 0, none⟩) 0 0) 0 []) (hit : It w B2 (.slice va n c) xs) (hn : n ≤ 1000000) (hB : B ≤ w.heap.size) :
    ∃ a' c' w', (Builtin.append_ #[133, 133] 133 #[.slice (some ⟨g, 0, none⟩) 0 0, .slice va n c]).run Try.prog w = .ok (.slice a' n c') w' ∧ w'.ownsRow B 141 5 (.slice a' n c') n (itsC xs) ∧ w.grownBy w' (some g) := by
  obtain ⟨i0, hi, hz0, hz1, hz2⟩ := info_parts el133.info
  have hs : Sr w B2 141 5 (.slice va n c) xs.length (itsC xs) := hit
  have hl : xs.length = n := by
    obtain ⟨a', c', e, _⟩ := hs.shape
    simp only [Value.slice.injEq] at e
    exact e.2.1.symm
  subst hl
  rcases hs.2 with ⟨e, h0⟩ | ⟨g2, off, cap, cur, e, hb, hh, hnc, _⟩
  · simp only [Value.slice.injEq] at e
    obtain ⟨rfl, _, rfl⟩ := e
    have hx : xs = [] := List.eq_nil_of_length_eq_zero h0
    subst hx
    refine ⟨some ⟨g, 0, none⟩, 0, w, ?_, ho, ⟨rfl, rfl, rfl, Nat.le_refl _, fun _ _ _ => rfl⟩⟩
    simp [Builtin.append_, run_underlying under133, sizeOf, typeInfo, hi, Builtin.lenOf, Builtin.firstCells, loadCells, loadCellsFrom, storeCells]
  · simp only [Value.slice.injEq] at e
    obtain ⟨rfl, _, rfl⟩ := e
    obtain ⟨v', w', hr, h2, h3, h4⟩ := run_append_own (P := Try.prog) w B 133 133 141 i0 (.agg zero141.toArray) 5 40 el133.und hi hz0 hz1 hz2 el133.zs el133.pos (.slice (some ⟨g, 0, none⟩) 0 0) 0 [] ho ⟨g2, off, none⟩ xs.length c (itsC xs) (itsC_len xs) (fun j u hu => by rw [Addr.add_lit]; exact hs.cells j u hu) (itsC_one xs) (by unfold maxLen; omega) (by omega) hB
    rw [Nat.zero_add, List.nil_append] at h2
    obtain ⟨a', c', rfl, _⟩ := (Sr.of h2).shape
    exact ⟨a', c', w', hr, h2, h3⟩
theorem sizes_told (l : List Rcd) : ((l.map toldOf).map Itm.size).sum = sizes l := by unfold sizes; rw [List.map_map]; rfl
theorem It.cut {w : World} {B : Nat} {a : Option Addr} {n c : Nat} {xs : List Itm} (h : It w B (.slice a n c) xs) (hn : xs.length = n) (k : Nat) (hk : k ≤ n) : It w B (.slice (if c = k then a else a.map (·.add (k * 5))) (n - k) (c - k)) (xs.drop k) := by
  subst hn
  unfold It
  rw [itsC_drop, List.length_drop]
  exact Sr.cut h k hk
end Go.Proofs.Ytknllmcpogoeoaa
