/- What law03 compares with: begins, same, few, file; the reference's File and Bodies. -/
import Derived.Test.YtknllmcpogoeoaaDoorBd
import Derived.Test.YtknllmcpogoeoaaDoorHs5
import Derived.Laws.IdiomStrings
import Derived.Laws.BytesArg
namespace Go.Proofs.YtknllmcpogoeoaaDoor
open Go.RowKit
set_option linter.unusedVariables false
set_option linter.unusedSimpArgs false
theorem str_eq (l r : List UInt8) : ((⟨l.toArray⟩ : ByteArray) = ⟨r.toArray⟩) ↔ l = r := by simp
/-- the slice at a with len elements reads as the parts D -/
structure Pv (w : World) (a : Option Addr) (len : Nat) (D : List PartS) : Prop where
  leng : D.length = len
  cell : ∀ (k : Nat) (p : PartS), D[k]? = some p → ∃ b off pa pn pc, a = some ⟨b, off, none⟩ ∧ w.cell? ⟨b, off + k * 4, none⟩ = some (.int .i64 (p.off : Int)) ∧ w.cell? ⟨b, off + k * 4 + 1, none⟩ = some (.int .i64 (p.len : Int)) ∧
    w.cell? ⟨b, off + k * 4 + 2, none⟩ = some (.slice pa pn pc) ∧ w.cell? ⟨b, off + k * 4 + 3, none⟩ = some (.bool p.good) ∧ Bs w pa pn p.body
theorem Pv.ext {w w' : World} {a : Option Addr} {len : Nat} {D : List PartS} (h : Pv w a len D) (e : Ext w w') : Pv w' a len D :=
  ⟨h.leng, fun k p hp => by
    obtain ⟨b, off, pa, pn, pc, e0, e1, e2, e3, e4, e5⟩ := h.cell k p hp
    exact ⟨b, off, pa, pn, pc, e0, e.cell e1, e.cell e2, e.cell e3, e.cell e4, e.bs e5⟩⟩
theorem Pv.take {w : World} {a : Option Addr} {len : Nat} {D : List PartS} (h : Pv w a len D) (n : Nat) (hn : n ≤ len) : Pv w a n (D.take n) :=
  ⟨by rw [List.length_take, h.leng]; omega, fun k p hp => by
    rw [List.getElem?_take] at hp
    by_cases hk : k < n
    · rw [if_pos hk] at hp; exact h.cell k p hp
    · rw [if_neg hk] at hp; cases hp⟩
theorem Prow.pv {e : Nat} {w : World} {B : Nat} {a : Option Addr} {c : Nat} {rows : List (Value × PartS)} (h : Prow e w B a c rows) : Pv w a rows.length (rows.map (·.2)) := by
  refine ⟨by simp, fun k p hp => ?_⟩
  rw [List.getElem?_map] at hp
  obtain ⟨r, hr, rfl⟩ := Option.map_eq_some_iff.1 hp
  have hk := (List.getElem?_eq_some_iff.1 hr).1
  obtain ⟨a1, n1, c1, e1, o1⟩ := h.2 r (List.mem_of_getElem? hr)
  rcases h.1.2 with ⟨_, h0⟩ | ⟨g, cap, cur, e2, hg, hh, hn, hm, hs, ht⟩
  · omega
  · simp only [Value.slice.injEq] at e2
    have hc : ∀ j u, j < 4 → (pcells r)[j]? = some u → w.cell? ⟨g, 0 + k * 4 + j, none⟩ = some u := fun j u hj hu => by
      rw [Nat.zero_add, cell_of_row w g (k * 4 + j) cur e (0, 0) hh]
      rw [← pcells_get rows k r hr j hj, ← ht, List.getElem?_take, if_pos (by omega)] at hu
      simpa using hu
    refine ⟨g, 0, a1, n1, c1, e2.1, hc 0 _ (by omega) rfl, hc 1 _ (by omega) rfl, ?_, hc 3 _ (by omega) rfl, o1.bs⟩
    rw [← e1]
    exact hc 2 _ (by omega) rfl
instance : DecidableEq PartS := fun a b => decidable_of_iff (a.off = b.off ∧ a.len = b.len ∧ a.body = b.body ∧ a.good = b.good) (by cases a; cases b; simp)
end Go.Proofs.YtknllmcpogoeoaaDoor
