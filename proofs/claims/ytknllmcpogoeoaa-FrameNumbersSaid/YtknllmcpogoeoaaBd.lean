/- Slices of byte slices that are the call's own; frame.Bodies. -/
import Derived.Test.YtknllmcpogoeoaaPt
namespace Go.Proofs.Ytknllmcpogoeoaa
open Go.RowKit
set_option linter.unusedVariables false
set_option linter.unusedSimpArgs false
attribute [local go_sem] Oper.semAt_some
theorem n2_lt (l : List UInt8) : n2 l ≤ 65535 := by
  have h1 := (l[2]?.getD 0).toNat_lt
  have h2 := (l[3]?.getD 0).toNat_lt
  unfold n2 nn
  omega
/-- the parts of any bytes: an induction -/
theorem scan_ind {P : Nat → List UInt8 → Prop} (h0 : ∀ off, P off []) (hg : ∀ off l, stb l = true → P (off + st l) (l.drop (st l)) → P off l)
    (hb : ∀ off l, l ≠ [] → stb l = false → P (off + junk l) (l.drop (junk l)) → P off l) : ∀ (n off : Nat) (l : List UInt8), l.length ≤ n → P off l := by
  intro n
  induction n with
  | zero => intro off l h; have : l = [] := List.length_eq_zero_iff.1 (by omega); subst this; exact h0 off
  | succ n ih =>
    intro off l h
    by_cases hl : l = []
    · subst hl; exact h0 off
    have hpos : 0 < l.length := List.length_pos_iff.2 hl
    by_cases hs : stb l = true
    · have hst := st_yes hs
      exact hg off l hs (ih _ _ (by rw [List.length_drop]; omega))
    · have hs : stb l = false := by simpa using hs
      have := junk_pos hl hs
      exact hb off l hl hs (ih _ _ (by rw [List.length_drop]; omega))
def bodL (D : List PartS) : List (List UInt8) := (D.filter (·.good)).map (·.body)
def lostL (D : List PartS) : Nat := ((D.filter (fun p => !p.good)).map (·.len)).sum
theorem lostL_append (a b : List PartS) : lostL (a ++ b) = lostL a + lostL b := by simp [lostL]
theorem bodL_append (a b : List PartS) : bodL (a ++ b) = bodL a ++ bodL b := by simp [bodL]
theorem lost_le (l : List UInt8) (off : Nat) : lostL (scanP off l) ≤ l.length := by
  refine scan_ind (P := fun off l => lostL (scanP off l) ≤ l.length) ?_ ?_ ?_ l.length off l (Nat.le_refl _)
  · intro off; simp [scanP_nil, lostL]
  · intro off l hs ih
    rw [scanP_good hs]
    rw [List.length_drop] at ih
    have : lostL (⟨off, st l, (l.drop 8).take (n2 l), true⟩ :: scanP (off + st l) (l.drop (st l))) = lostL (scanP (off + st l) (l.drop (st l))) := by simp [lostL]
    omega
  · intro off l hl hs ih
    rw [scanP_bad hl hs]
    rw [List.length_drop] at ih
    have : lostL (⟨off, junk l, [], false⟩ :: scanP (off + junk l) (l.drop (junk l))) = junk l + lostL (scanP (off + junk l) (l.drop (junk l))) := by simp [lostL]
    have := junk_le l
    omega
theorem scanP_len (l : List UInt8) (off : Nat) : (scanP off l).length ≤ l.length := by
  refine scan_ind (P := fun off l => (scanP off l).length ≤ l.length) ?_ ?_ ?_ l.length off l (Nat.le_refl _)
  · intro off; simp [scanP_nil]
  · intro off l hs ih
    rw [scanP_good hs]
    rw [List.length_drop] at ih
    have := (stb_hd hs).1
    have := st_yes hs
    simp only [List.length_cons]
    omega
  · intro off l hl hs ih
    rw [scanP_bad hl hs]
    rw [List.length_drop] at ih
    have := junk_pos hl hs
    have := junk_le l
    simp only [List.length_cons]
    omega
theorem bodL_len (D : List PartS) (i : Nat) : (bodL (D.take i)).length ≤ i := by
  unfold bodL
  rw [List.length_map]
  have := List.length_filter_le (fun p : PartS => p.good) (D.take i)
  rw [List.length_take] at this
  omega
theorem lost_take (D : List PartS) (i : Nat) : lostL (D.take i) ≤ lostL D := by
  rw [← List.take_append_drop i D, lostL_append, List.take_append_drop]; omega
theorem body_len (l : List UInt8) (off : Nat) : ∀ p ∈ scanP off l, p.body.length ≤ 65535 := by
  refine scan_ind (P := fun off l => ∀ p ∈ scanP off l, p.body.length ≤ 65535) ?_ ?_ ?_ l.length off l (Nat.le_refl _)
  · intro off p hp; simp [scanP_nil] at hp
  · intro off l hs ih p hp
    rw [scanP_good hs] at hp
    rcases List.mem_cons.1 hp with rfl | hp
    · have := n2_lt l
      simp only [List.length_take]; omega
    · exact ih p hp
  · intro off l hl hs ih p hp
    rw [scanP_bad hl hs] at hp
    rcases List.mem_cons.1 hp with rfl | hp
    · simp
    · exact ih p hp
/-- an own slice of byte slices: its cells, and each element a slice of bytes of the call's own -/
def Vrow (w : World) (B : Nat) (a : Option Addr) (c : Nat) (rows : List (Value × List UInt8)) : Prop :=
  w.ownsRow B 22 1 (.slice a rows.length c) rows.length (rows.map (·.1)) ∧ ∀ r ∈ rows, ∃ a n c, r.1 = .slice a n c ∧ Ow w B a n c r.2
theorem Vrow.nil (w : World) (B : Nat) : Vrow w B none 0 [] := ⟨World.ownsRow_nil w B 22 1, fun r h => by cases h⟩
theorem Vrow.ext {w0 w : World} {B : Nat} {a : Option Addr} {c : Nat} {rows : List (Value × List UInt8)} (h : Vrow w0 B a c rows) (x : Ext w0 w) : Vrow w B a c rows :=
  ⟨x.row h.1, fun r hr => by
    obtain ⟨a, n, c, e, ho⟩ := h.2 r hr
    exact ⟨a, n, c, e, x.row ho⟩⟩
theorem Vrow.mono {w : World} {B B' : Nat} {a : Option Addr} {c : Nat} {rows : List (Value × List UInt8)} (h : Vrow w B a c rows) (hB : B' ≤ B) : Vrow w B' a c rows :=
  ⟨row_mono h.1 hB, fun r hr => by
    obtain ⟨a, n, c, e, ho⟩ := h.2 r hr
    exact ⟨a, n, c, e, row_mono ho hB⟩⟩
theorem Vrow.snoc {w w' : World} {B : Nat} {a a' : Option Addr} {c c' : Nat} {rows : List (Value × List UInt8)} {r : Value × List UInt8} (h : Vrow w B a c rows)
    (hr : ∃ a n c, r.1 = .slice a n c ∧ Ow w B a n c r.2) (hg : w.grownBy w' (Value.slice a rows.length c).ownBlock)
    (ho : w'.ownsRow B 22 1 (.slice a' (rows.length + 1) c') (rows.length + 1) (rows.map (·.1) ++ [r.1])) : Vrow w' B a' c' (rows ++ [r]) := by
  refine ⟨by simpa using ho, fun x hx => ?_⟩
  have : x ∈ rows ∨ x = r := by simpa using hx
  rcases this with hx | rfl
  · obtain ⟨a1, n1, c1, e1, o1⟩ := h.2 x hx
    exact ⟨a1, n1, c1, e1, row_past o1 h.1 (by decide) hg⟩
  · obtain ⟨a1, n1, c1, e1, o1⟩ := hr
    exact ⟨a1, n1, c1, e1, row_past o1 h.1 (by decide) hg⟩
theorem Vrow.set {w : World} {B : Nat} {a : Option Addr} {c : Nat} {rows : List (Value × List UInt8)} (h : Vrow w B a c rows) {j : Nat} {cs : Array Value} {t : TypeId} {fr : Nat × Nat}
    (hj : w.heap[j]? = some (.cells cs t fr)) (hne : t ≠ 22) (h5 : t ≠ 5) (u : Value) : Vrow (w.setCell ⟨j, 0, none⟩ u) B a c rows :=
  ⟨row_set h.1 hj hne u, fun r hr => by
    obtain ⟨a1, n1, c1, e1, o1⟩ := h.2 r hr
    exact ⟨a1, n1, c1, e1, row_set o1 hj h5 u⟩⟩
theorem Ck.vrow {B B' c : Nat} {W W' : World} (h : Ck B W W') {a : Option Addr} {rows : List (Value × List UInt8)} (hp : Vrow W B' a c rows) : Vrow W' B' a c rows :=
  ⟨h.row hp.1, fun r hr => by
    obtain ⟨a1, n1, c1, e1, o1⟩ := hp.2 r hr
    exact ⟨a1, n1, c1, e1, h.row o1⟩⟩
theorem Vrow.ls {w : World} {B : Nat} {a : Option Addr} {c : Nat} {rows : List (Value × List UInt8)} (h : Vrow w B a c rows) (hn : ∀ r ∈ rows, r.2.length ≤ 140737488351232) : Ls w a rows.length (rows.map (·.2)) := by
  refine ⟨by simp, fun k hk => ?_⟩
  rcases h.1.2 with ⟨e, h0⟩ | ⟨g, cap, cur, e, hg, hh, hr⟩
  · omega
  · simp only [Value.slice.injEq] at e
    obtain ⟨a1, n1, c1, e1, o1⟩ := h.2 rows[k] (List.getElem_mem hk)
    refine ⟨g, 0, rows[k].1, e.1, ?_, ?_⟩
    · rw [Nat.zero_add, cell_of_row w g k cur 22 (0, 0) hh]
      have hk' : (rows.map (·.1))[k]? = some rows[k].1 := by rw [List.getElem?_map, List.getElem?_eq_getElem hk]; rfl
      rw [← hr.2.2.2, List.getElem?_take, if_pos (by omega)] at hk'
      simpa using hk'
    · rw [List.getElem?_map, List.getElem?_eq_getElem hk, e1]
      have hl := hn rows[k] (List.getElem_mem hk)
      exact o1.sl (by have := o1.leng; omega)
/-- what lies below an owned row's base lies on while it grows -/
theorem heap_low {w w' : World} {B e s n : Nat} {v : Value} {xs : List Value} (ho : w.ownsRow B e s v n xs) (hg : w.grownBy w' v.ownBlock) {j : Nat} {o : Obj} (hj : w.heap[j]? = some o) (hl : j < B) : w'.heap[j]? = some o := by
  refine (hg.block j (Array.getElem?_eq_some_iff.1 hj).1 ?_).trans hj
  intro h
  have := (World.ownsRow.lt ho j h.symm).1
  omega
structure BodAt (w0 w : World) (fb : Nat) (ap : Option Addr) (len cap : Nat) (l : List UInt8) (rows : List (Value × List UInt8)) (lost : Int) (W : World) : Prop where
  file : W.heap[fb]? = some (.cells #[.slice ap len cap] 22 (0, 0)) ∧ Ow W w0.heap.size ap len cap l ∧ w.heap.size ≤ W.heap.size
  lost : W.heap[w0.heap.size + 1]? = some (.cells #[.int .i64 lost] 3 (0, 0))
  out : ∃ a c, W.heap[w0.heap.size]? = some (.cells #[.slice a rows.length c] 37 (0, 0)) ∧ Vrow W w.heap.size a c rows
  old : Ext w0 W
theorem BodAt.ck {w0 w : World} {fb : Nat} {ap : Option Addr} {len cap : Nat} {l : List UInt8} {n : Int} {rows : List (Value × List UInt8)} {W W' : World} (hw : w0.heap.size ≤ w.heap.size)
    (h : BodAt w0 w fb ap len cap l rows n W) (k : Ck w.heap.size W W') : BodAt w0 w fb ap len cap l rows n W' := by
  refine ⟨⟨k.heap h.file.1, k.row h.file.2.1, Nat.le_trans h.file.2.2 k.size⟩, k.heap h.lost, ?_, ?_⟩
  · obtain ⟨a, c, h1, h2⟩ := h.out
    exact ⟨a, c, k.heap h1, k.vrow h2⟩
  · refine ⟨k.os.trans h.old.os, k.tape.trans h.old.tape, k.output.trans h.old.output, Nat.le_trans h.old.size k.size, fun j hj => ?_⟩
    have h1 := h.old.block j hj
    rw [← h1]
    have h2 : w0.heap[j]? = some w0.heap[j] := Array.getElem?_eq_getElem hj
    rw [h2] at h1
    rw [h1]
    exact k.same j _ h1 (.inl (by omega))
def BodI (w0 w : World) (fb : Nat) (ap : Option Addr) (len cap : Nat) (l : List UInt8) (i : Nat) (W : World) : Prop :=
  ∃ rows : List (Value × List UInt8), BodAt w0 w fb ap len cap l rows (lostL ((scanP 0 l).take i)) W ∧ rows.map (·.2) = bodL ((scanP 0 l).take i) ∧ i ≤ (scanP 0 l).length
def BodX (c : Code) (W : World) : Prop := False
def BodA (w : World) (t : Array Value) (p : PartS) (v : Value) (a' : Act) (W : World) : Prop :=
  ∃ g, a' = { tmps := (t.setIfInBounds 7 (partV p v)).setIfInBounds 4 (.pointer (some ⟨g, 0, none⟩)), defers := [] } ∧ W.heap[g]? = some (.cells #[.int .i64 (p.off : Int), .int .i64 (p.len : Int), v, .bool p.good] 36 (0, 0)) ∧ PartAt w.heap.size W p v
def BodPost (l : List UInt8) (w : World) (e : Ending) (w' : World) : Prop :=
  ∃ a c rows, e = .returned (.tuple #[.slice a rows.length c, .int .i64 (lostL (scanP 0 l) : Int)]) ∧ Vrow w' w.heap.size a c rows ∧ rows.map (·.2) = bodL (scanP 0 l) ∧ Ext w w'
set_option maxRecDepth 100000 in
set_option maxHeartbeats 1600000 in
theorem bodies_any (ap : Option Addr) (len cap : Nat) (l : List UInt8) (w0 : World) (hb : Bs w0 ap len l) (hm : len ≤ 1099511627776) (hnb : ap = none → cap = 0) :
    Calls Try.prog 38 #[.slice ap len cap] w0 (BodPost l w0) := by
  rw [← callsIn_wide (n := 0)]
  refine callsIn_of_wp_marks Try.func38 rfl trivial ?_ rfl
  simp only [Try.ntmps38, List.size_toArray, List.length_cons, List.length_nil, Nat.reduceAdd, Nat.reduceSub, Array.replicate_succ, Array.replicate_zero, List.push_toArray, List.append_toArray, List.nil_append, List.cons_append]
  have E0 := ((Ext.refl w0).al (.cells #[.slice none 0 0] 37)).al (.cells #[.int .i64 0] 3)
  have c0 : ((w0.alloc (.cells #[.slice none 0 0] 37)).alloc (.cells #[.int .i64 0] 3)).heap[w0.heap.size]? = some (.cells #[.slice none 0 0] 37 (0, 0)) := ((Ext.refl _).al _).heap (heap_alloc_new w0 _)
  have h1 : ((w0.alloc (.cells #[.slice none 0 0] 37)).alloc (.cells #[.int .i64 0] 3)).heap[w0.heap.size + 1]? = some (.cells #[.int .i64 0] 3 (0, 0)) := heap_alloc2_new w0 _ _
  have hz : w0.heap.size + 2 ≤ ((w0.alloc (.cells #[.slice none 0 0] 37)).alloc (.cells #[.int .i64 0] 3)).heap.size := by simp
  generalize hw1 : (w0.alloc (.cells #[.slice none 0 0] 37)).alloc (.cells #[.int .i64 0] 3) = w1 at *
  have Hw1 := Lib.hid hw1
  clear hw1
  gi_wp2_with (refine ⟨trivial, rfl, ?_⟩; gi_at_call 105; rw [Hw1.out]; refine (callsIn_wide.2 (scan_any _ _ _ _ _ (E0.bs hb) (by omega) hnb)).mono ?_; rintro e w ⟨fb, a1, n1, c1, rfl, hfb, hfc, hfo, E1⟩)
  have hnl := hfo.leng
  have hnc := hfo.cap.1
  have n0 : BodAt w0 w fb a1 n1 c1 l [] 0 w :=
    ⟨⟨hfc, row_mono hfo (by omega), Nat.le_refl _⟩, E1.heap h1, ⟨none, 0, E1.heap c0, Vrow.nil w w.heap.size⟩, E0.tr E1⟩
  obtain ⟨ts, hts⟩ : ∃ ts : Array Value, ts = #[Value.slice ap len cap, undef, Value.pointer (some { block := w0.heap.size, off := 0 }),
          Value.pointer (some { block := w0.heap.size + 1, off := 0 }), undef, Value.slice ap len cap,
          Value.func (Fn.func 135) #[] #[Value.pointer (some { block := fb, off := 0 })], undef, undef, undef, undef,
          undef, undef, undef, undef, undef, undef, undef, undef, undef, undef] := ⟨_, rfl⟩
  refine range_scan (D := scanP 0 l) (fb := fb) (ap := a1) (len := n1) (cap := c1) (l := l) (by rfl) rfl (by have := hb.leng; omega) hnc (BodI w0 w fb a1 n1 c1 l) BodX (BodA w ts) ?hIf ?hIc ?hXc ?hAc ?h0 ?hassign ?hbody ?hdone ?hstop
  case hIf => rintro i W ⟨rows, h, _⟩; exact ⟨cell0_of h.file.1, h.file.2.1.bs, h.file.2.2⟩
  case hIc => rintro i W W' ⟨rows, h, h2⟩ k; exact ⟨rows, h.ck (by have := E1.size; omega) k, h2⟩
  case hXc => rintro c W W' h k; exact h
  case hAc => rintro p v a' W W' ⟨g, e, h, h2⟩ k; exact ⟨g, e, k.heap h, k.part h2⟩
  case h0 => exact ⟨[], n0, by simp [bodL], by omega⟩
  case hassign =>
    intro L i W p v K hI hp hpa hK
    dsimp only [partV]
    simp only [List.setIfInBounds_toArray, List.set_cons_zero, List.set_cons_succ]
    obtain ⟨pa, pn, pc, rfl, hpo⟩ := hpa
    gi_wp2
    have EA := (Ext.refl W).al (.cells #[Value.int IntKind.i64 ↑p.off, Value.int IntKind.i64 ↑p.len, .slice pa pn pc, Value.bool p.good] 36)
    refine hK _ _ (EA.nk _) ?_ ⟨W.heap.size, ?_, heap_alloc_new W _, ⟨pa, pn, pc, rfl, EA.row hpo⟩⟩
    · obtain ⟨rows, h, h2⟩ := hI
      exact ⟨rows, h.ck (by have := E1.size; omega) (EA.ck _), h2⟩
    · rw [hts]; rfl
  case hbody =>
    intro L i W p v a' hI hp hA
    obtain ⟨g, rfl, hg, hpa⟩ := hA
    rw [hts]
    dsimp only [partV]
    simp only [List.setIfInBounds_toArray, List.set_cons_zero, List.set_cons_succ]
    obtain ⟨rows, hat, hr, hil⟩ := hI
    obtain ⟨pa, pn, pc, rfl, hpo⟩ := hpa
    obtain ⟨oa, oc, ho, hrow⟩ := hat.out
    have hsz := E1.size
    have hbl := hb.leng
    have hfb2 : fb < w.heap.size := (Array.getElem?_eq_some_iff.1 hfc).1
    have hsz2 := hat.file.2.2
    have hlt := (List.getElem?_eq_some_iff.1 hp).1
    have htk : (scanP 0 l).take (i + 1) = (scanP 0 l).take i ++ [p] := by simp [List.take_add_one, hp]
    have hco : W.cell? ⟨w0.heap.size, 0, none⟩ = some (.slice oa rows.length oc) := cell0_of ho
    have hlo := hat.lost
    have hcl := cell0_of hat.lost
    have hfl := froz0_of hat.lost
    have hll := lost_le l 0
    have hsl := scanP_len l 0
    have hrl : rows.length ≤ i := by
      have h1 := congrArg List.length hr
      have h2 := bodL_len (scanP 0 l) i
      rw [List.length_map] at h1
      omega
    have hl1 := lost_take (scanP 0 l) (i + 1)
    have hg0 : W.cell? ⟨g, 0, none⟩ = some (Value.int IntKind.i64 ↑p.off) := by simp [World.cell?, hg]
    have hg1 : W.cell? ⟨g, 1, none⟩ = some (Value.int IntKind.i64 ↑p.len) := by simp [World.cell?, hg]
    have hg2 : W.cell? ⟨g, 2, none⟩ = some (.slice pa pn pc) := by simp [World.cell?, hg]
    have hg3 : W.cell? ⟨g, 3, none⟩ = some (Value.bool p.good) := by simp [World.cell?, hg]
    unfold bpost BodI
    rw [htk, lostL_append, bodL_append] at *
    generalize lostL (List.take i (scanP 0 l)) = lo at *
    obtain ⟨po, pl, pb, pg⟩ := p
    cases pg with
    | true =>
      have hlp : lostL [(⟨po, pl, pb, true⟩ : PartS)] = 0 := rfl
      have hbp : bodL [(⟨po, pl, pb, true⟩ : PartS)] = [pb] := rfl
      rw [hlp] at hl1 ⊢
      rw [hbp]
      gi_wp2_with (gi_at_builtin; refine wpi_appE el37 (s := .tmp 10) (x := .tmp 13) w.heap.size [.slice pa pn pc] (rows.length + 1) rfl rfl (row_al hrow.1 _) rfl (news_at W _ rfl _ 22) (by simp [Value.oneCell']) rfl (by omega) (by omega) (by simp <;> omega) (by omega) ?_; intro g3 c3 w3 O3 G3; have ho3 := heap_low (row_al hrow.1 _) G3 (((Ext.refl W).al (.cells #[.slice pa pn pc] 22)).heap ho) (by omega); have hc3 := cell0_of ho3; have hf3 := froz0_of ho3)
      have EA := (Ext.refl W).al (.cells #[.slice pa pn pc] 22)
      have R0 := row_al hrow.1 (.cells #[.slice pa pn pc] 22)
      have hgs := grown_size G3
      have hps2 : W.heap.size ≤ w3.heap.size := Nat.le_trans EA.size hgs
      refine ⟨((EA.nk _).tr (Nk.app R0 G3)).setCell _ _, rows ++ [(.slice pa pn pc, pb)], ⟨⟨?_, ?_, ?_⟩, ?_, ⟨some ⟨g3, 0, none⟩, c3, ?_, ?_⟩, ?_⟩, ?_, by omega⟩
      · rw [heap_set_ne _ (by omega)]
        exact heap_low R0 G3 (EA.heap hat.file.1) hfb2
      · exact row_set (row_past (EA.row hat.file.2.1) R0 (by decide) G3) ho3 (by decide) _
      · have := grown_size (grown_set w3 w0.heap.size (Value.slice (some { block := g3, off := 0 }) (rows.length + 1) c3))
        omega
      · rw [heap_set_ne _ (by omega)]
        exact heap_low R0 G3 (EA.heap hlo) (by omega)
      · rw [List.length_append]
        exact heap_set _ ho3
      · exact ((hrow.ext EA).snoc ⟨pa, pn, pc, rfl, EA.row hpo⟩ G3 O3).set ho3 (by decide) (by decide) _
      · exact ((hat.old.al _).app R0 (by omega) G3).set (by omega) _
      · rw [List.map_append, hr]; rfl
    | false =>
      have hlp : lostL [(⟨po, pl, pb, false⟩ : PartS)] = pl := by simp [lostL]
      have hbp : bodL [(⟨po, pl, pb, false⟩ : PartS)] = [] := rfl
      rw [hlp] at hl1 ⊢
      rw [hbp]
      have hwr : IntKind.i64.wrap ((lo : Int) + (pl : Int)) = (lo : Int) + (pl : Int) := IntWalk.i64_in _ (by omega)
      gi_wp2
      refine ⟨((Ext.refl W).nk _).setCell _ _, rows, ⟨⟨?_, ?_, ?_⟩, ?_, ⟨oa, oc, ?_, ?_⟩, ?_⟩, ?_, by omega⟩
      · rw [heap_set_ne _ (by omega)]
        exact hat.file.1
      · exact row_set hat.file.2.1 hlo (by decide) _
      · have := grown_size (grown_set W (w0.heap.size + 1) (Value.int IntKind.i64 (↑lo + ↑pl)))
        omega
      · exact heap_set _ hlo
      · rw [heap_set_ne _ (by omega)]
        exact ho
      · exact hrow.set hlo (by decide) (by decide) _
      · exact hat.old.set (by omega) _
      · rw [hr]
  case hdone =>
    intro d W hI hK hd
    obtain ⟨rows, hat, hr, hil⟩ := hI
    obtain ⟨oa, oc, ho, hrow⟩ := hat.out
    have hco : W.cell? ⟨w0.heap.size, 0, none⟩ = some (.slice oa rows.length oc) := cell0_of ho
    have hcl := cell0_of hat.lost
    have hfo := froz0_of ho
    have hfl := froz0_of hat.lost
    have hs1 := heap_set (.slice oa rows.length oc) ho
    have hs2 : (W.setCell ⟨w0.heap.size, 0, none⟩ (.slice oa rows.length oc)).heap[w0.heap.size + 1]? = _ := (heap_set_ne (.slice oa rows.length oc) (by omega)).trans hat.lost
    have hs3 := heap_set (.int .i64 (lostL (List.take (scanP 0 l).length (scanP 0 l)) : Int)) hs2
    have hs4 := (heap_set_ne (k := w0.heap.size) (j := w0.heap.size + 1) (W := W.setCell ⟨w0.heap.size, 0, none⟩ (.slice oa rows.length oc)) (.int .i64 (lostL (List.take (scanP 0 l).length (scanP 0 l)) : Int)) (by omega)).trans hs1
    have hrow2 := (hrow.set ho (by decide) (by decide) (.slice oa rows.length oc)).set hs2 (by decide) (by decide) (.int .i64 (lostL (List.take (scanP 0 l).length (scanP 0 l)) : Int))
    have hE2 := (hat.old.set (j := w0.heap.size) (by omega) (.slice oa rows.length oc)).set (j := w0.heap.size + 1) (by omega) (.int .i64 (lostL (List.take (scanP 0 l).length (scanP 0 l)) : Int))
    have hK2 : ((W.setCell ⟨w0.heap.size, 0, none⟩ (.slice oa rows.length oc)).setCell ⟨w0.heap.size + 1, 0, none⟩ (.int .i64 (lostL (List.take (scanP 0 l).length (scanP 0 l)) : Int))).heap[d]? = some (.deferred (some [])) := by
      have := E1.size
      rw [heap_set_ne _ (by omega), heap_set_ne _ (by omega)]; exact hK
    rw [List.take_of_length_le (Nat.le_refl _)] at *
    gi_wp2
    gi_region
    rename_i K hKK
    refine hKK _ _ ?_
    generalize ((W.setCell ⟨w0.heap.size, 0, none⟩ (.slice oa rows.length oc)).setCell ⟨w0.heap.size + 1, 0, none⟩ (.int .i64 (lostL (scanP 0 l) : Int))) = W2 at *
    gi_wp2
    refine ⟨by simp, .inl ⟨_, _, rfl, run_takeDeferred (w := W2.drew) hK2, ?_⟩⟩
    have hck : Ck w.heap.size W2.drew (W2.drew.putObj d (.deferred none)) := Ck.put _ hd hK2 rfl
    have hz2 := E1.size
    have g3 := hck.heap hs3
    have g4 := hck.heap hs4
    have gv := hck.vrow hrow2
    have gE := Ck.below (w := w0) rfl (Ck.put (W := W2.drew) (.deferred none) (by omega) hK2 rfl) hE2.dr
    generalize W2.drew.putObj d (.deferred none) = W4 at *
    have cc3 := cell0_of g3
    have cc4 := cell0_of g4
    refine ⟨.tuple #[.slice oa rows.length oc, .int .i64 (lostL (scanP 0 l) : Int)], ?_, oa, oc, rows, rfl, gv.mono (by omega), hr, gE⟩
    simp only [results]
    go_simp

  case hstop => exact fun d c W h => h.elim
end Go.Proofs.Ytknllmcpogoeoaa
