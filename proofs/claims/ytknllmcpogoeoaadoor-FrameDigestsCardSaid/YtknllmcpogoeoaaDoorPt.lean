/- frame.Scan, and parts of law03: the iteration gathered in a slice. -/
import Derived.Test.YtknllmcpogoeoaaDoorRng
namespace Go.Proofs.YtknllmcpogoeoaaDoor
open Go.RowKit
set_option linter.unusedVariables false
set_option linter.unusedSimpArgs false
attribute [local go_sem] Oper.semAt_some
/-- a block of cells of another type lies on while a row grows -/
theorem heap_past {w w' : World} {B e s n : Nat} {v : Value} {xs : List Value} (ho : w.ownsRow B e s v n xs) (hg : w.grownBy w' v.ownBlock) {j : Nat} {cs : Array Value} {t : TypeId} {fr : Nat × Nat}
    (hj : w.heap[j]? = some (.cells cs t fr)) (hne : t ≠ e) : w'.heap[j]? = some (.cells cs t fr) := by
  have hl : j < w.heap.size := (Array.getElem?_eq_some_iff.1 hj).1
  refine (hg.block j hl ?_).trans hj
  intro hk
  rcases ho.2 with ⟨h1, _⟩ | ⟨g, cap, cur, e1, hg', hh, r⟩
  · rw [h1] at hk; cases hk
  · rw [e1] at hk
    simp only [Value.ownBlock, Option.some.injEq] at hk
    subst hk
    rw [hh] at hj
    simp only [Option.some.injEq, Obj.cells.injEq] at hj
    exact hne hj.2.1.symm
theorem grown_set (W : World) (b : Nat) (v : Value) : W.grownBy (W.setCell ⟨b, 0, none⟩ v) (some b) :=
  ⟨rfl, rfl, rfl, (KeepsWalks.setCell W _ v).size, fun k _ hk => Below.heap_setCell _ _ _ k (fun e => hk (by rw [e]))⟩
/-- an owned row lies on while a variable of another type is set -/
theorem row_set {w : World} {B e s n : Nat} {v : Value} {xs : List Value} (ho : w.ownsRow B e s v n xs) {j : Nat} {cs : Array Value} {t : TypeId} {fr : Nat × Nat}
    (hj : w.heap[j]? = some (.cells cs t fr)) (hne : t ≠ e) (u : Value) : (w.setCell ⟨j, 0, none⟩ u).ownsRow B e s v n xs := by
  refine ho.kept (grown_set w j u) ?_
  rcases ho.2 with ⟨h1, _⟩ | ⟨g, cap, cur, e1, hg', hh, r⟩
  · left; rw [h1]; rfl
  · right
    rw [e1]
    simp only [Value.ownBlock, ne_eq, Option.some.injEq]
    intro hk
    subst hk
    rw [hh] at hj
    simp only [Option.some.injEq, Obj.cells.injEq] at hj
    exact hne hj.2.1.symm
theorem heap_set {W : World} {B : Nat} {v : Value} {t : TypeId} (v' : Value) (h : W.heap[B]? = some (.cells #[v] t (0, 0))) : (W.setCell ⟨B, 0, none⟩ v').heap[B]? = some (.cells #[v'] t (0, 0)) := by
  obtain ⟨hlt, hk⟩ := Array.getElem?_eq_some_iff.1 h
  show (W.heap.modify B _)[B]? = _
  rw [Array.getElem?_eq_getElem (by rw [Array.size_modify]; exact hlt), Array.getElem_modify_self, hk]
  rfl
theorem heap_set_ne {W : World} {j k : Nat} (u : Value) (hne : k ≠ j) : (W.setCell ⟨j, 0, none⟩ u).heap[k]? = W.heap[k]? := Below.heap_setCell _ _ _ k hne
theorem Ext.set {w0 w : World} (h : Ext w0 w) {j : Nat} (hj : w0.heap.size ≤ j) (u : Value) : Ext w0 (w.setCell ⟨j, 0, none⟩ u) :=
  h.grown (grown_set w j u) (fun k e => by cases e; exact hj)
theorem Prow.set {e : Nat} {w : World} {B : Nat} {a : Option Addr} {c : Nat} {rows : List (Value × PartS)} (h : Prow e w B a c rows) {j : Nat} {cs : Array Value} {t : TypeId} {fr : Nat × Nat}
    (hj : w.heap[j]? = some (.cells cs t fr)) (hne : t ≠ e) (h5 : t ≠ 5) (u : Value) : Prow e (w.setCell ⟨j, 0, none⟩ u) B a c rows :=
  ⟨row_set h.1 hj hne u, fun r hr => by
    obtain ⟨a1, n1, c1, e1, o1⟩ := h.2 r hr
    exact ⟨a1, n1, c1, e1, row_set o1 hj h5 u⟩⟩
theorem cell0_of {W : World} {B : Nat} {v : Value} {t : TypeId} (h : W.heap[B]? = some (.cells #[v] t (0, 0))) : W.cell? ⟨B, 0, none⟩ = some v := by simp [World.cell?, h]
theorem froz0_of {W : World} {B : Nat} {v : Value} {t : TypeId} (h : W.heap[B]? = some (.cells #[v] t (0, 0))) : W.frozen? ⟨B, 0, none⟩ = false := by simp [World.frozen?, h]
theorem Nk.app {B' B e s n : Nat} {w w' : World} {v : Value} {xs : List Value} (ho : w.ownsRow B e s v n xs) (hg : w.grownBy w' v.ownBlock) : Nk B' w w' := fun k o hk _ hc => by
  have hl : k < w.heap.size := (Array.getElem?_eq_some_iff.1 hk).1
  refine (hg.block k hl ?_).trans hk
  intro h
  rcases ho.2 with ⟨h1, _⟩ | ⟨g, cap, cur, e1, hg', hh, r⟩
  · rw [h1] at h; cases h
  · rw [e1] at h
    simp only [Value.ownBlock, Option.some.injEq] at h
    subst h
    rw [hh] at hk
    cases hk; cases hc
theorem grown_size {w w' : World} {row : Option Nat} (h : w.grownBy w' row) : w.heap.size ≤ w'.heap.size := h.size
def ScanPost (l : List UInt8) (w : World) (e : Ending) (w' : World) : Prop :=
  ∃ (g : Nat) (a : Option Addr) (n c : Nat), e = .returned (.func (.func 56) #[] #[.pointer (some ⟨g, 0, none⟩)]) ∧ w.heap.size ≤ g ∧ w'.heap[g]? = some (.cells #[.slice a n c] 22 (0, 0)) ∧ Ow w' w.heap.size a n c l ∧ Ext w w'
set_option maxHeartbeats 800000 in
theorem scan_any (ap : Option Addr) (n c : Nat) (l : List UInt8) (w : World) (hb : Bs w ap n l) (hn : n ≤ 140737488351232) (hnb : ap = none → c = 0) :
    Calls Tryd.prog 50 #[.slice ap n c] w (ScanPost l w) := by
  have Z := Ow.zero w w.heap.size rfl w.heap.size (Nat.le_refl _)
  have E0 := (Ext.refl w).al (.cells #[] 5)
  have hmf : ∀ (fn : Fn) (first cap : Array Value) (w : World), (Instr.makeFunc fn first cap).run Tryd.prog w = .ok (.func fn first cap) w := fun _ _ _ _ => rfl
  go_enter Tryd.func50, Tryd.ntmps50
  go_wp2_with (at_builtin; refine wp_app (s := .tmp 4) (x := .tmp 5) w.heap.size n l rfl rfl Z (E0.bs hb) hnb (by omega) rfl (by omega) (by simp) ?_; intro a1 c1 w1 O1 G1; have E1 := E0.app Z (Nat.le_refl _) G1)
  go_ret
  exact ⟨w1.heap.size, a1, n, c1, rfl, E1.sz, heap_alloc_new w1 _, row_al O1 _, E1.al _⟩

/-- the call's own variables: the box of n, the variable out -/
structure PartsAt (w0 w : World) (fb : Nat) (ap : Option Addr) (len cap : Nat) (l : List UInt8) (n : Int) (rows : List (Value × PartS)) (W : World) : Prop where
  file : W.heap[fb]? = some (.cells #[.slice ap len cap] 22 (0, 0)) ∧ Ow W w0.heap.size ap len cap l ∧ w.heap.size ≤ W.heap.size
  box : W.heap[w0.heap.size]? = some (.cells #[.int .i64 n] 3 (0, 0))
  out : ∃ a c, W.heap[w0.heap.size + 1]? = some (.cells #[.slice a rows.length c] 30 (0, 0)) ∧ Prow 36 W w0.heap.size a c rows
  old : Ext w0 W
theorem PartsAt.ck {w0 w : World} {fb : Nat} {ap : Option Addr} {len cap : Nat} {l : List UInt8} {n : Int} {rows : List (Value × PartS)} {W W' : World} (hw : w0.heap.size ≤ w.heap.size)
    (h : PartsAt w0 w fb ap len cap l n rows W) (k : Ck w.heap.size W W') : PartsAt w0 w fb ap len cap l n rows W' := by
  refine ⟨⟨k.heap h.file.1, k.row h.file.2.1, Nat.le_trans h.file.2.2 k.size⟩, k.heap h.box, ?_, ?_⟩
  · obtain ⟨a, c, h1, h2⟩ := h.out
    exact ⟨a, c, k.heap h1, k.prow h2⟩
  · refine ⟨k.os.trans h.old.os, k.tape.trans h.old.tape, k.output.trans h.old.output, Nat.le_trans h.old.size k.size, fun j hj => ?_⟩
    have h1 := h.old.block j hj
    rw [← h1]
    have h2 : w0.heap[j]? = some w0.heap[j] := Array.getElem?_eq_getElem hj
    rw [h2] at h1
    rw [h1]
    exact k.same j _ h1 (.inl (by omega))
def PartsI (w0 w : World) (fb : Nat) (ap : Option Addr) (len cap : Nat) (l : List UInt8) (n : Nat) (i : Nat) (W : World) : Prop :=
  ∃ rows : List (Value × PartS), PartsAt w0 w fb ap len cap l n rows W ∧ rows.map (·.2) = (scanP 0 l).take i ∧ i ≤ n ∧ i ≤ (scanP 0 l).length
def PartsX (w0 w : World) (fb : Nat) (ap : Option Addr) (len cap : Nat) (l : List UInt8) (n : Nat) (c : Code) (W : World) : Prop :=
  c = .exit 0 ∧ ∃ rows : List (Value × PartS), PartsAt w0 w fb ap len cap l n rows W ∧ rows.map (·.2) = (scanP 0 l).take n
def PartsA (w : World) (t : Array Value) (p : PartS) (v : Value) (a' : Act) (W : World) : Prop :=
  ∃ g, a' = { tmps := (t.setIfInBounds 9 (partV p v)).setIfInBounds 6 (.pointer (some ⟨g, 0, none⟩)), defers := [] } ∧ W.heap[g]? = some (.cells #[.int .i64 (p.off : Int), .int .i64 (p.len : Int), v, .bool p.good] 87 (0, 0)) ∧ PartAt w.heap.size W p v
def PartsPost (l : List UInt8) (n : Nat) (w : World) (e : Ending) (w' : World) : Prop :=
  ∃ a c rows, e = .returned (.slice a rows.length c) ∧ Prow 36 w' w.heap.size a c rows ∧ rows.map (·.2) = (scanP 0 l).take n ∧ Ext w w'
end Go.Proofs.YtknllmcpogoeoaaDoor
