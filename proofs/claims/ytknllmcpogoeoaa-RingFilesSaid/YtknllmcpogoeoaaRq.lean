/- Slices of records of the call's own; a ring in memory. -/
import Derived.Test.YtknllmcpogoeoaaRp
namespace Go.Proofs.Ytknllmcpogoeoaa
open Go.RowKit
set_option linter.unusedVariables false
set_option linter.unusedSimpArgs false
set_option maxRecDepth 100000
def i64s (zs : List Int) : List Value := zs.map fun z => Value.int .i64 z
theorem i64s_len (zs : List Int) : (i64s zs).length = zs.length := by simp [i64s]
/-- a slice of int64 of the call's own -/
def Zw (w : World) (B : Nat) (u : Value) (zs : List Int) : Prop := w.ownsRow B 2 1 u zs.length (i64s zs) ∧ zs.length ≤ 1048576
theorem el91 : ElemT 91 2 1 8 (.int .i64 0) := ⟨under91, by kernel_rfl, rfl, by decide⟩
section
variable {w w' : World} {B : Nat} {u v : Value} {zs : List Int}
theorem Zw.zl (h : Zw w B u zs) : Zl w u zs := by
  obtain ⟨h, hb⟩ := h
  rcases h.2 with ⟨rfl, h0⟩ | ⟨g, cap, cur, rfl, hB, hh, hn, hm, hs, ht⟩
  · exact ⟨none, 0, 0, rfl, ⟨by omega, fun j hj => by omega⟩, Nat.le_refl _, fun _ => rfl, by omega⟩
  · refine ⟨some ⟨g, 0, none⟩, _, cap, rfl, ⟨rfl, fun j hj => ⟨g, 0, rfl, ?_⟩⟩, hn, (fun h => by cases h), by omega⟩
    have hc := h.cells (g := g) rfl j (.int .i64 (zs[j]?.getD 0)) (by simp [i64s, hj])
    rwa [Addr.add_lit] at hc
theorem Zw.nil (w : World) (B : Nat) : Zw w B (.slice none 0 0) [] := ⟨World.ownsRow_nil _ _ _ _, by simp⟩
theorem Zw.blk (h : Zw w B u zs) : ∀ g, u.ownBlock = some g → B ≤ g ∧ g < w.heap.size ∧ ∃ cur, w.heap[g]? = some (.cells cur 2 (0, 0)) := (Sr.of h.1).blk
theorem row_heap {e s n : Nat} {xs : List Value} (h : w.ownsRow B e s v n xs) (hk : ∀ g, v.ownBlock = some g → w'.heap[g]? = w.heap[g]?) : w'.ownsRow B e s v n xs := by
  refine ⟨h.1, ?_⟩
  rcases h.2 with h1 | ⟨g, cap, cur, rfl, hb, hh, r⟩
  · exact .inl h1
  · exact .inr ⟨g, cap, cur, rfl, hb, (hk g rfl).trans hh, r⟩
theorem Zw.heap (h : Zw w B u zs) (hk : ∀ g, u.ownBlock = some g → w'.heap[g]? = w.heap[g]?) : Zw w' B u zs := ⟨row_heap h.1 hk, h.2⟩
theorem Zw.ext (h : Zw w B u zs) (E : Ext w w') : Zw w' B u zs := h.heap fun g hg => E.block g (h.blk g hg).2.1
theorem Zw.mono {B' : Nat} (h : Zw w B u zs) (hB : B' ≤ B) : Zw w B' u zs := ⟨row_mono h.1 hB, h.2⟩
/-- blocks of other types may turn -/
theorem Zw.frm {s : List Nat} (h : Zw w B u zs) (F : Frm s w w') (hs : ∀ b ∈ s, ∀ cur, w.heap[b]? ≠ some (.cells cur 2 (0, 0))) : Zw w' B u zs :=
  h.heap fun g hg => by
    obtain ⟨_, h2, cur, h3⟩ := h.blk g hg
    exact F.block g h2 (fun hx => hs g hx cur h3)
end
def rcells (ps : List (Rcd × Value)) : List Value := ps.flatMap fun p => p.1.cells p.2
/-- v is a slice of records, each with arguments of the call's own -/
structure Rl (w : World) (B : Nat) (v : Value) (ps : List (Rcd × Value)) : Prop where
  row : Sr w B 95 29 v ps.length (rcells ps)
  one : ∀ p ∈ ps, p.1.ok ∧ Zw w B p.2 p.1.ev.args
theorem rcells_at : ∀ (ps : List (Rcd × Value)) (k : Nat) (p : Rcd × Value), (∀ q ∈ ps, q.1.words.length = 16) → ps[k]? = some p → ∀ j u, (p.1.cells p.2)[j]? = some u → (rcells ps)[k * 29 + j]? = some u
  | [], k, p, _, h, j, u, hu => by simp at h
  | q :: r, 0, p, hw, h, j, u, hu => by
    simp only [List.getElem?_cons_zero, Option.some.injEq] at h
    subst h
    unfold rcells
    rw [List.flatMap_cons, Nat.zero_mul, Nat.zero_add, List.getElem?_append_left ((List.getElem?_eq_some_iff.1 hu).1)]
    exact hu
  | q :: r, k + 1, p, hw, h, j, u, hu => by
    rw [List.getElem?_cons_succ] at h
    have ih := rcells_at r k p (fun x hx => hw x (List.mem_cons_of_mem _ hx)) h j u hu
    unfold rcells at ih ⊢
    have hl := Rcd.cells_len q.1 q.2 (hw q (List.mem_cons_self ..))
    rw [List.flatMap_cons, List.getElem?_append_right (by omega), hl, show (k + 1) * 29 + j - 29 = k * 29 + j by omega]
    exact ih
theorem rcells_app (ps qs : List (Rcd × Value)) : rcells (ps ++ qs) = rcells ps ++ rcells qs := by unfold rcells; simp
theorem rcells_drop : ∀ (k : Nat) (ps : List (Rcd × Value)), (∀ q ∈ ps, q.1.words.length = 16) → rcells (ps.drop k) = (rcells ps).drop (k * 29)
  | 0, ps, _ => by simp
  | k + 1, [], _ => by simp [rcells]
  | k + 1, q :: r, hw => by
    rw [List.drop_succ_cons, rcells_drop k r (fun x hx => hw x (List.mem_cons_of_mem _ hx))]
    have hl := Rcd.cells_len q.1 q.2 (hw q (List.mem_cons_self ..))
    unfold rcells
    rw [List.flatMap_cons, show (k + 1) * 29 = 29 + k * 29 by omega, ← List.drop_drop, List.drop_append_of_le_length (by omega), List.drop_of_length_le (show (q.1.cells q.2).length ≤ 29 by omega), List.nil_append]
theorem cells_one (r : Rcd) (a : Option Addr) (n c : Nat) : ∀ x ∈ r.cells (.slice a n c), x.oneCell' = true := by
  have h : (r.cells (.slice a n c)).all (·.oneCell') = true := by
    unfold Rcd.cells Evt.cells
    simp [Value.oneCell', List.all_append]
  exact fun x hx => List.all_eq_true.1 h x hx
section
variable {w w' : World} {B : Nat} {v : Value} {ps : List (Rcd × Value)}
theorem Rl.w16 (h : Rl w B v ps) : ∀ q ∈ ps, q.1.words.length = 16 := fun q hq => (h.one q hq).1.words
theorem Rl.nil (w : World) (B : Nat) : Rl w B (.slice none 0 0) [] := ⟨Sr.nil _ _ _ _, fun p hp => by cases hp⟩
theorem Rl.ext (h : Rl w B v ps) (E : Ext w w') : Rl w' B v ps := ⟨h.row.ext E, fun p hp => ⟨(h.one p hp).1, (h.one p hp).2.ext E⟩⟩
theorem Rl.mono {B' : Nat} (h : Rl w B v ps) (hB : B' ≤ B) : Rl w B' v ps := ⟨h.row.mono hB, fun p hp => ⟨(h.one p hp).1, (h.one p hp).2.mono hB⟩⟩
theorem Rl.frm {s : List Nat} (h : Rl w B v ps) (F : Frm s w w') (hv : ∀ g, v.ownBlock = some g → g ∉ s) (hs : ∀ b ∈ s, ∀ cur, w.heap[b]? ≠ some (.cells cur 2 (0, 0))) : Rl w' B v ps :=
  ⟨h.row.frm F hv, fun p hp => ⟨(h.one p hp).1, (h.one p hp).2.frm F hs⟩⟩
theorem Rl.cut {a : Option Addr} {n c : Nat} (h : Rl w B (.slice a n c) ps) (hn : n = ps.length) (k : Nat) (hk : k ≤ n) : Rl w B (.slice (if c = k then a else a.map (·.add (k * 29))) (n - k) (c - k)) (ps.drop k) := by
  subst hn
  refine ⟨?_, fun p hp => h.one p (List.mem_of_mem_drop hp)⟩
  rw [rcells_drop k ps h.w16, List.length_drop]
  exact h.row.cut k hk
/-- where an element lies -/
theorem Rl.at_ {a : Option Addr} {n c : Nat} (h : Rl w B (.slice a n c) ps) (k : Nat) (p : Rcd × Value) (hp : ps[k]? = some p) :
    ∃ g off, a = some ⟨g, off, none⟩ ∧ (∀ j u, (p.1.cells p.2)[j]? = some u → w.cell? ⟨g, off + k * 29 + j, none⟩ = some u) ∧ p.1.ok ∧ Zw w B p.2 p.1.ev.args ∧ B ≤ g := by
  have hm : p ∈ ps := List.mem_of_getElem? hp
  have hk := (List.getElem?_eq_some_iff.1 hp).1
  obtain ⟨h1, h2⟩ := h.one p hm
  have hr := h.row
  rcases hr.2 with ⟨_, h0⟩ | ⟨g, off, cap, cur, e, hb, _⟩
  · omega
  · simp only [Value.slice.injEq] at e
    obtain ⟨rfl, rfl, rfl⟩ := e
    refine ⟨g, off, rfl, fun j u hu => ?_, h1, h2, hb⟩
    have := hr.cells (k * 29 + j) u (rcells_at ps k p h.w16 hp j u hu)
    rwa [← Nat.add_assoc] at this
end
/-- one record more, out of a block that holds its cells -/
theorem Rl.app {z : Value} {bytes : Nat} (T : ElemT 84 95 29 bytes z) (hbs : bytes ≤ 1024) {w : World} {B : Nat} {a : Option Addr} {n c : Nat} {ps : List (Rcd × Value)} (h : Rl w B (.slice a n c) ps) (ty : TypeId) (g cx : Nat) (x : Rcd) (u : Value) (hx : x.ok) (hu : Zw w B u x.ev.args)
    (hg : Blk w g 95 (x.cells u)) (h1 : ∀ y ∈ x.cells u, y.oneCell' = true) (hn : n ≤ 1048576) (hB : B ≤ w.heap.size) :
    ∃ g' off' c' w', (Builtin.append_ #[84, 84] ty #[.slice a n c, .slice (some ⟨g, 0, none⟩) 1 cx]).run Try.prog w = .ok (.slice (some ⟨g', off', none⟩) (n + 1) c') w' ∧ Rl w' B (.slice (some ⟨g', off', none⟩) (n + 1) c') (ps ++ [(x, u)]) ∧
      w.grownBy w' (Value.slice a n c).ownBlock ∧ ((Value.slice a n c).ownBlock = some g' ∨ w.heap.size ≤ g') := by
  have hl : ps.length = n := by
    obtain ⟨a', c', e, _⟩ := h.row.shape
    simp only [Value.slice.injEq] at e
    exact e.2.1.symm
  subst hl
  obtain ⟨g', off', c', w', hr, hs, hG, hb⟩ := Sr.app T w ty B a ps.length c (rcells ps) g cx (x.cells u) h.row (Rcd.cells_len _ _ hx.words) (fun j y hy => by rw [hg.cell]; exact hy) h1 (by omega) (by have := Nat.mul_le_mul (show ps.length + 1 ≤ 1048577 by omega) hbs; omega) hB
  refine ⟨g', off', c', w', hr, ⟨?_, fun p hp => ?_⟩, hG, hb⟩
  · rw [List.length_append, rcells_app]
    simpa [rcells] using hs
  · have key : ∀ (y : Rcd × Value), Zw w B y.2 y.1.ev.args → Zw w' B y.2 y.1.ev.args := fun y hy => hy.heap fun k hk => by
      obtain ⟨_, h2, cur, h3⟩ := hy.blk k hk
      refine hG.block k h2 (fun e => ?_)
      obtain ⟨_, _, cur', h4⟩ := h.row.blk k e.symm
      rw [h3] at h4
      simp at h4
    rcases List.mem_append.1 hp with hp | hp
    · exact ⟨(h.one p hp).1, key p (h.one p hp).2⟩
    · simp only [List.mem_singleton] at hp
      subst hp
      exact ⟨hx, key (x, u) hu⟩
theorem isAgg95 (w : World) : (isAgg 95).run Try.prog w = .ok true w := by kernel_rfl
theorem size95 (w : World) : (sizeOf 95).run Try.prog w = .ok 29 w := by kernel_rfl
/-- a ring in memory: its block g, the value v of its records, the plain ring -/
structure Rn (w : World) (B g : Nat) (v : Value) (ps : List (Rcd × Value)) (r : Rg) : Prop where
  blk : Blk w g 191 (rgCells r.cap (r.used : Int) v r.begun r.era r.first r.next)
  lst : Rl w B v ps
  eq : ps.map (·.1) = r.list
  sum : r.used = sizes r.list
  low : B ≤ g
  n1 : r.first < 18446744073709551616
  n2 : r.next < 18446744073709551616
  e1 : -9223372036854775808 ≤ r.era ∧ r.era ≤ 9223372036854775807
  c1 : 1 ≤ r.cap ∧ r.cap ≤ 9223372036854775807
end Go.Proofs.Ytknllmcpogoeoaa
