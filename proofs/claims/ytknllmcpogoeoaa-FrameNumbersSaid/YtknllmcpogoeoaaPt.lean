/- frame.Scan, and parts of law03: the iteration gathered in a slice. -/
import Derived.Test.YtknllmcpogoeoaaRng
namespace Go.Proofs.Ytknllmcpogoeoaa
open Go.RowKit
set_option linter.unusedVariables false
set_option linter.unusedSimpArgs false
attribute [local go_sem] Oper.semAt_some
/-- a block of cells of another type lies on while a row grows -/
theorem heap_past {w w' : World} {B e s n : Nat} {v : Value} {xs : List Value} (ho : w.ownsRow B e s v n xs) (hg : w.grownBy w' v.ownBlock) {j : Nat} {cs : Array Value} {t : TypeId} {fr : Nat × Nat}
    (hj : w.heap[j]? = some (.cells cs t fr)) (hne : t ≠ e) : w'.heap[j]? = some (.cells cs t fr) := by
  have hl : j < w.heap.size := (Array.getElem?_eq_some_iff.1 hj).1
  refine (hg.block j hl ?_).trans hj
  intro hk
  rcases ho.2 with ⟨h1, _⟩ | ⟨g, cap, cur, e1, hg', hh, r⟩
  · rw [h1] at hk; cases hk
  · rw [e1] at hk
    simp only [Value.ownBlock, Option.some.injEq] at hk
    subst hk
    rw [hh] at hj
    simp only [Option.some.injEq, Obj.cells.injEq] at hj
    exact hne hj.2.1.symm
theorem grown_set (W : World) (b : Nat) (v : Value) : W.grownBy (W.setCell ⟨b, 0, none⟩ v) (some b) :=
  ⟨rfl, rfl, rfl, (KeepsWalks.setCell W _ v).size, fun k _ hk => Below.heap_setCell _ _ _ k (fun e => hk (by rw [e]))⟩
/-- an owned row lies on while a variable of another type is set -/
theorem row_set {w : World} {B e s n : Nat} {v : Value} {xs : List Value} (ho : w.ownsRow B e s v n xs) {j : Nat} {cs : Array Value} {t : TypeId} {fr : Nat × Nat}
    (hj : w.heap[j]? = some (.cells cs t fr)) (hne : t ≠ e) (u : Value) : (w.setCell ⟨j, 0, none⟩ u).ownsRow B e s v n xs := by
  refine ho.kept (grown_set w j u) ?_
  rcases ho.2 with ⟨h1, _⟩ | ⟨g, cap, cur, e1, hg', hh, r⟩
  · left; rw [h1]; rfl
  · right
    rw [e1]
    simp only [Value.ownBlock, ne_eq, Option.some.injEq]
    intro hk
    subst hk
    rw [hh] at hj
    simp only [Option.some.injEq, Obj.cells.injEq] at hj
    exact hne hj.2.1.symm
theorem heap_set {W : World} {B : Nat} {v : Value} {t : TypeId} (v' : Value) (h : W.heap[B]? = some (.cells #[v] t (0, 0))) : (W.setCell ⟨B, 0, none⟩ v').heap[B]? = some (.cells #[v'] t (0, 0)) := by
  obtain ⟨hlt, hk⟩ := Array.getElem?_eq_some_iff.1 h
  show (W.heap.modify B _)[B]? = _
  rw [Array.getElem?_eq_getElem (by rw [Array.size_modify]; exact hlt), Array.getElem_modify_self, hk]
  rfl
theorem heap_set_ne {W : World} {j k : Nat} (u : Value) (hne : k ≠ j) : (W.setCell ⟨j, 0, none⟩ u).heap[k]? = W.heap[k]? := Below.heap_setCell _ _ _ k hne
theorem Ext.set {w0 w : World} (h : Ext w0 w) {j : Nat} (hj : w0.heap.size ≤ j) (u : Value) : Ext w0 (w.setCell ⟨j, 0, none⟩ u) :=
  h.grown (grown_set w j u) (fun k e => by cases e; exact hj)
theorem Prow.set {e : Nat} {w : World} {B : Nat} {a : Option Addr} {c : Nat} {rows : List (Value × PartS)} (h : Prow e w B a c rows) {j : Nat} {cs : Array Value} {t : TypeId} {fr : Nat × Nat}
    (hj : w.heap[j]? = some (.cells cs t fr)) (hne : t ≠ e) (h5 : t ≠ 5) (u : Value) : Prow e (w.setCell ⟨j, 0, none⟩ u) B a c rows :=
  ⟨row_set h.1 hj hne u, fun r hr => by
    obtain ⟨a1, n1, c1, e1, o1⟩ := h.2 r hr
    exact ⟨a1, n1, c1, e1, row_set o1 hj h5 u⟩⟩
theorem cell0_of {W : World} {B : Nat} {v : Value} {t : TypeId} (h : W.heap[B]? = some (.cells #[v] t (0, 0))) : W.cell? ⟨B, 0, none⟩ = some v := by simp [World.cell?, h]
theorem froz0_of {W : World} {B : Nat} {v : Value} {t : TypeId} (h : W.heap[B]? = some (.cells #[v] t (0, 0))) : W.frozen? ⟨B, 0, none⟩ = false := by simp [World.frozen?, h]
theorem Nk.app {B' B e s n : Nat} {w w' : World} {v : Value} {xs : List Value} (ho : w.ownsRow B e s v n xs) (hg : w.grownBy w' v.ownBlock) : Nk B' w w' := fun k o hk _ hc => by
  have hl : k < w.heap.size := (Array.getElem?_eq_some_iff.1 hk).1
  refine (hg.block k hl ?_).trans hk
  intro h
  rcases ho.2 with ⟨h1, _⟩ | ⟨g, cap, cur, e1, hg', hh, r⟩
  · rw [h1] at h; cases h
  · rw [e1] at h
    simp only [Value.ownBlock, Option.some.injEq] at h
    subst h
    rw [hh] at hk
    cases hk; cases hc
theorem grown_size {w w' : World} {row : Option Nat} (h : w.grownBy w' row) : w.heap.size ≤ w'.heap.size := h.size
def ScanPost (l : List UInt8) (w : World) (e : Ending) (w' : World) : Prop :=
  ∃ (g : Nat) (a : Option Addr) (n c : Nat), e = .returned (.func (.func 135) #[] #[.pointer (some ⟨g, 0, none⟩)]) ∧ w.heap.size ≤ g ∧ w'.heap[g]? = some (.cells #[.slice a n c] 22 (0, 0)) ∧ Ow w' w.heap.size a n c l ∧ Ext w w'
set_option maxHeartbeats 800000 in
theorem scan_any (ap : Option Addr) (n c : Nat) (l : List UInt8) (w : World) (hb : Bs w ap n l) (hn : n ≤ 140737488351232) (hnb : ap = none → c = 0) :
    Calls Try.prog 105 #[.slice ap n c] w (ScanPost l w) := by
  have Z := Ow.zero w w.heap.size rfl w.heap.size (Nat.le_refl _)
  have E0 := (Ext.refl w).al (.cells #[] 5)
  have hmf : ∀ (fn : Fn) (first cap : Array Value) (w : World), (Instr.makeFunc fn first cap).run Try.prog w = .ok (.func fn first cap) w := fun _ _ _ _ => rfl
  go_enter Try.func105, Try.ntmps105
  go_wp2_with (at_builtin; refine wp_app (s := .tmp 4) (x := .tmp 5) w.heap.size n l rfl rfl Z (E0.bs hb) hnb (by omega) rfl (by omega) (by simp) ?_; intro a1 c1 w1 O1 G1; have E1 := E0.app Z (Nat.le_refl _) G1)
  go_ret
  exact ⟨w1.heap.size, a1, n, c1, rfl, E1.sz, heap_alloc_new w1 _, row_al O1 _, E1.al _⟩

/-- the call's own variables: the box of n, the variable out -/
structure PartsAt (w0 w : World) (fb : Nat) (ap : Option Addr) (len cap : Nat) (l : List UInt8) (n : Int) (rows : List (Value × PartS)) (W : World) : Prop where
  file : W.heap[fb]? = some (.cells #[.slice ap len cap] 22 (0, 0)) ∧ Ow W w0.heap.size ap len cap l ∧ w.heap.size ≤ W.heap.size
  box : W.heap[w0.heap.size]? = some (.cells #[.int .i64 n] 3 (0, 0))
  out : ∃ a c, W.heap[w0.heap.size + 1]? = some (.cells #[.slice a rows.length c] 30 (0, 0)) ∧ Prow 36 W w0.heap.size a c rows
  old : Ext w0 W
theorem PartsAt.ck {w0 w : World} {fb : Nat} {ap : Option Addr} {len cap : Nat} {l : List UInt8} {n : Int} {rows : List (Value × PartS)} {W W' : World} (hw : w0.heap.size ≤ w.heap.size)
    (h : PartsAt w0 w fb ap len cap l n rows W) (k : Ck w.heap.size W W') : PartsAt w0 w fb ap len cap l n rows W' := by
  refine ⟨⟨k.heap h.file.1, k.row h.file.2.1, Nat.le_trans h.file.2.2 k.size⟩, k.heap h.box, ?_, ?_⟩
  · obtain ⟨a, c, h1, h2⟩ := h.out
    exact ⟨a, c, k.heap h1, k.prow h2⟩
  · refine ⟨k.os.trans h.old.os, k.tape.trans h.old.tape, k.output.trans h.old.output, Nat.le_trans h.old.size k.size, fun j hj => ?_⟩
    have h1 := h.old.block j hj
    rw [← h1]
    have h2 : w0.heap[j]? = some w0.heap[j] := Array.getElem?_eq_getElem hj
    rw [h2] at h1
    rw [h1]
    exact k.same j _ h1 (.inl (by omega))
def PartsI (w0 w : World) (fb : Nat) (ap : Option Addr) (len cap : Nat) (l : List UInt8) (n : Nat) (i : Nat) (W : World) : Prop :=
  ∃ rows : List (Value × PartS), PartsAt w0 w fb ap len cap l n rows W ∧ rows.map (·.2) = (scanP 0 l).take i ∧ i ≤ n ∧ i ≤ (scanP 0 l).length
def PartsX (w0 w : World) (fb : Nat) (ap : Option Addr) (len cap : Nat) (l : List UInt8) (n : Nat) (c : Code) (W : World) : Prop :=
  c = .exit 0 ∧ ∃ rows : List (Value × PartS), PartsAt w0 w fb ap len cap l n rows W ∧ rows.map (·.2) = (scanP 0 l).take n
def PartsA (w : World) (t : Array Value) (p : PartS) (v : Value) (a' : Act) (W : World) : Prop :=
  ∃ g, a' = { tmps := (t.setIfInBounds 9 (partV p v)).setIfInBounds 6 (.pointer (some ⟨g, 0, none⟩)), defers := [] } ∧ W.heap[g]? = some (.cells #[.int .i64 (p.off : Int), .int .i64 (p.len : Int), v, .bool p.good] 36 (0, 0)) ∧ PartAt w.heap.size W p v
def PartsPost (l : List UInt8) (n : Nat) (w : World) (e : Ending) (w' : World) : Prop :=
  ∃ a c rows, e = .returned (.slice a rows.length c) ∧ Prow 36 w' w.heap.size a c rows ∧ rows.map (·.2) = (scanP 0 l).take n ∧ Ext w w'
set_option maxRecDepth 100000 in
set_option maxHeartbeats 1600000 in
theorem parts_any (ap : Option Addr) (len cap : Nat) (l : List UInt8) (n : Nat) (w0 : World) (hb : Bs w0 ap len l) (hm : len ≤ 1099511627776) (hnb : ap = none → cap = 0) (hn : n ≤ 1073741824) :
    Calls Try.prog 36 #[.slice ap len cap, .int .i64 (n : Int)] w0 (PartsPost l n w0) := by
  rw [← callsIn_wide (n := 0)]
  refine callsIn_of_wp_marks Try.func36 rfl trivial ?_ rfl
  simp only [Try.ntmps36, List.size_toArray, List.length_cons, List.length_nil, Nat.reduceAdd, Nat.reduceSub, Array.replicate_succ, Array.replicate_zero, List.push_toArray, List.append_toArray, List.nil_append, List.cons_append]
  have E0 := ((Ext.refl w0).al (.cells #[.int .i64 (n : Int)] 3)).al (.cells #[.slice none 0 0] 30)
  have c0 : ((w0.alloc (.cells #[.int .i64 (n : Int)] 3)).alloc (.cells #[.slice none 0 0] 30)).heap[w0.heap.size]? = some (.cells #[.int .i64 (n : Int)] 3 (0, 0)) := ((Ext.refl _).al _).heap (heap_alloc_new w0 _)
  have h1 : ((w0.alloc (.cells #[.int .i64 (n : Int)] 3)).alloc (.cells #[.slice none 0 0] 30)).heap[w0.heap.size + 1]? = some (.cells #[.slice none 0 0] 30 (0, 0)) := heap_alloc2_new w0 _ _
  have hz : w0.heap.size + 2 ≤ ((w0.alloc (.cells #[.int .i64 (n : Int)] 3)).alloc (.cells #[.slice none 0 0] 30)).heap.size := by simp
  generalize hw1 : (w0.alloc (.cells #[.int .i64 (n : Int)] 3)).alloc (.cells #[.slice none 0 0] 30) = w1 at *
  have Hw1 := Lib.hid hw1
  clear hw1
  gi_wp2_with (refine ⟨trivial, rfl, ?_⟩; gi_at_call 105; rw [Hw1.out]; refine (callsIn_wide.2 (scan_any _ _ _ _ _ (E0.bs hb) (by omega) hnb)).mono ?_; rintro e w ⟨fb, a1, n1, c1, rfl, hfb, hfc, hfo, E1⟩)
  have hnl := hfo.leng
  have hnc := hfo.cap.1
  have n0 : PartsAt w0 w fb a1 n1 c1 l n [] w := by
    refine ⟨⟨hfc, row_mono hfo (by omega), Nat.le_refl _⟩, E1.heap c0, ⟨none, 0, E1.heap h1, Prow.nil 36 w w0.heap.size⟩, E0.tr E1⟩
  obtain ⟨ts, hts⟩ : ∃ ts : Array Value, ts = #[Value.slice ap len cap, Value.int IntKind.i64 ↑n, undef, Value.pointer (some { block := w0.heap.size, off := 0 }), Value.slice none 0 0,
          Value.pointer (some { block := w0.heap.size + 1, off := 0 }), undef, Value.slice ap len cap,
          Value.func (Fn.func 135) #[] #[Value.pointer (some { block := fb, off := 0 })], undef, undef, undef, undef, undef, undef, undef, undef, undef, undef] := ⟨_, rfl⟩
  refine range_scan (D := scanP 0 l) (fb := fb) (ap := a1) (len := n1) (cap := c1) (l := l) (by rfl) rfl (by have := hb.leng; omega) hnc (PartsI w0 w fb a1 n1 c1 l n) (PartsX w0 w fb a1 n1 c1 l n) (PartsA w ts) ?hIf ?hIc ?hXc ?hAc ?h0 ?hassign ?hbody ?hdone ?hstop
  case hIf => rintro i W ⟨rows, h, _⟩; exact ⟨cell0_of h.file.1, h.file.2.1.bs, h.file.2.2⟩
  case hIc => rintro i W W' ⟨rows, h, h2⟩ k; exact ⟨rows, h.ck (by have := E1.size; omega) k, h2⟩
  case hXc => rintro c W W' ⟨hc, rows, h, h2⟩ k; exact ⟨hc, rows, h.ck (by have := E1.size; omega) k, h2⟩
  case hAc => rintro p v a' W W' ⟨g, e, h, h2⟩ k; exact ⟨g, e, k.heap h, k.part h2⟩
  case h0 => exact ⟨[], n0, by simp, by omega, by omega⟩
  case hassign =>
    intro L i W p v K hI hp hpa hK
    dsimp only [partV]
    simp only [List.setIfInBounds_toArray, List.set_cons_zero, List.set_cons_succ]
    obtain ⟨pa, pn, pc, rfl, hpo⟩ := hpa
    gi_wp2
    have EA := (Ext.refl W).al (.cells #[Value.int IntKind.i64 ↑p.off, Value.int IntKind.i64 ↑p.len, .slice pa pn pc, Value.bool p.good] 36)
    refine hK _ _ (EA.nk _) ?_ ⟨W.heap.size, ?_, heap_alloc_new W _, ⟨pa, pn, pc, rfl, EA.row hpo⟩⟩
    · obtain ⟨rows, h, h2⟩ := hI
      exact ⟨rows, h.ck (by have := E1.size; omega) (EA.ck _), h2⟩
    · rw [hts]; rfl
  case hbody =>
    intro L i W p v a' hI hp hA
    obtain ⟨g, rfl, hg, hpa⟩ := hA
    rw [hts]
    dsimp only [partV]
    simp only [List.setIfInBounds_toArray, List.set_cons_zero, List.set_cons_succ]
    obtain ⟨rows, hat, hr, hin, hil⟩ := hI
    obtain ⟨pa, pn, pc, rfl, hpo⟩ := hpa
    obtain ⟨oa, oc, ho, hrow⟩ := hat.out
    have hbox := cell0_of hat.box
    have hco : W.cell? ⟨w0.heap.size + 1, 0, none⟩ = some (.slice oa rows.length oc) := cell0_of ho
    have hg0 : W.cell? ⟨g, 0, none⟩ = some (Value.int IntKind.i64 ↑p.off) := by simp [World.cell?, hg]
    have hg1 : W.cell? ⟨g, 1, none⟩ = some (Value.int IntKind.i64 ↑p.len) := by simp [World.cell?, hg]
    have hg2 : W.cell? ⟨g, 2, none⟩ = some (.slice pa pn pc) := by simp [World.cell?, hg]
    have hg3 : W.cell? ⟨g, 3, none⟩ = some (Value.bool p.good) := by simp [World.cell?, hg]
    have hrl : rows.length = i := by have := congrArg List.length hr; simp at this; omega
    subst hrl
    by_cases hge : n ≤ rows.length
    · have hgt : decide ((n : Int) ≤ (rows.length : Int)) = true := by simp; omega
      gi_wp2
      refine ⟨(Ext.refl W).nk _, rfl, rows, hat, ?_⟩
      rw [hr, (by omega : rows.length = n)]
    have hgt : decide ((n : Int) ≤ (rows.length : Int)) = false := by simp; omega
    have hps : (pcells (.slice pa pn pc, p)).toArray = #[Value.int IntKind.i64 ↑p.off, Value.int IntKind.i64 ↑p.len, .slice pa pn pc, Value.bool p.good] := rfl
    have hsz := E1.size
    have hsz2 := hat.file.2.2
    gi_wp2_with (gi_at_builtin; refine wpi_appE el30 (s := .tmp 14) (x := .tmp 16) w0.heap.size (pcells (.slice pa pn pc, p)) (rows.length + 1) rfl rfl (row_al hrow.1 _) rfl (news_at W _ rfl _ 36) (by simp [pcells, Value.oneCell']) rfl (by omega) (by omega) (by simp <;> omega) (by omega) ?_; intro g3 c3 w3 O3 G3; have ho3 := heap_past (row_al hrow.1 _) G3 (((Ext.refl W).al (.cells (pcells (.slice pa pn pc, p)).toArray 36)).heap ho) (by decide); have hc3 := cell0_of ho3; have hf3 := froz0_of ho3)
    have EA := (Ext.refl W).al (.cells (pcells (.slice pa pn pc, p)).toArray 36)
    have R0 := row_al hrow.1 (.cells (pcells (.slice pa pn pc, p)).toArray 36)
    have hgs := grown_size G3
    have hps2 : W.heap.size ≤ w3.heap.size := Nat.le_trans EA.size hgs
    refine ⟨((EA.nk _).tr (Nk.app R0 G3)).setCell _ _, rows ++ [(.slice pa pn pc, p)], ⟨⟨?_, ?_, ?_⟩, ?_, ⟨some ⟨g3, 0, none⟩, c3, ?_, ?_⟩, ?_⟩, ?_, by omega, ?_⟩
    · rw [heap_set_ne _ (by omega)]
      exact heap_past R0 G3 (EA.heap hat.file.1) (by decide)
    · exact row_set (row_past (EA.row hat.file.2.1) R0 (by decide) G3) ho3 (by decide) _
    · have := hat.file.2.2
      have := grown_size (grown_set w3 (w0.heap.size + 1) (Value.slice (some { block := g3, off := 0 }) (rows.length + 1) c3))
      omega
    · rw [heap_set_ne _ (by omega)]
      exact heap_past R0 G3 (EA.heap hat.box) (by decide)
    · rw [List.length_append]
      exact heap_set _ ho3
    · exact ((hrow.ext EA).snoc (by decide) ⟨pa, pn, pc, rfl, row_mono (EA.row hpo) (by omega)⟩ G3 O3).set ho3 (by decide) (by decide) _
    · exact ((hat.old.al _).app R0 (Nat.le_refl _) G3).set (by omega) _
    · rw [List.map_append, hr]
      simp [List.take_add_one, hp]
    · have := (List.getElem?_eq_some_iff.1 hp).1
      omega
  case hdone =>
    intro d W hI hK hd
    obtain ⟨rows, hat, hr, hin, hil⟩ := hI
    obtain ⟨oa, oc, ho, hrow⟩ := hat.out
    have hco : W.cell? ⟨w0.heap.size + 1, 0, none⟩ = some (.slice oa rows.length oc) := cell0_of ho
    gi_wp2
    refine ⟨by simp, .inl ⟨_, _, rfl, run_takeDeferred hK, ?_⟩⟩
    have hck : Ck w0.heap.size W (W.putObj d (.deferred none)) := Ck.put _ (by have := E1.size; omega) hK rfl
    refine ⟨_, results_tmp rfl _ _ _, oa, oc, rows, rfl, hck.prow hrow, ?_, Ck.below rfl hck hat.old⟩
    rw [hr, List.take_of_length_le (Nat.le_refl _), List.take_of_length_le hin]
  case hstop =>
    rintro d c W ⟨rfl, rows, hat, hr⟩ hK hd
    obtain ⟨oa, oc, ho, hrow⟩ := hat.out
    have hco : W.cell? ⟨w0.heap.size + 1, 0, none⟩ = some (.slice oa rows.length oc) := cell0_of ho
    gi_wp2
    refine ⟨by simp, .inl ⟨_, _, rfl, run_takeDeferred hK, ?_⟩⟩
    have hck : Ck w0.heap.size W (W.putObj d (.deferred none)) := Ck.put _ (by have := E1.size; omega) hK rfl
    exact ⟨_, results_tmp rfl _ _ _, oa, oc, rows, rfl, hck.prow hrow, hr, Ck.below rfl hck hat.old⟩
end Go.Proofs.Ytknllmcpogoeoaa
