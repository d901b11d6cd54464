/- 'Frm s w w'': what was there in w has not turned, but for the blocks of the list s. Blocks that are known whole. -/
import Derived.Test.YtknllmcpogoeoaaExt
import Derived.RangeFuncSeq
namespace Go.Proofs.Ytknllmcpogoeoaa
open Go.RowKit
set_option linter.unusedVariables false
set_option linter.unusedSimpArgs false
structure Frm (s : List Nat) (w w' : World) : Prop where
  os : w'.os = w.os
  tape : w'.tape = w.tape
  output : w'.output = w.output
  size : w.heap.size ≤ w'.heap.size
  block : ∀ k, k < w.heap.size → k ∉ s → w'.heap[k]? = w.heap[k]?
theorem Frm.refl (s : List Nat) (w : World) : Frm s w w := ⟨rfl, rfl, rfl, Nat.le_refl _, fun _ _ _ => rfl⟩
theorem Frm.tr {s : List Nat} {a b c : World} (h : Frm s a b) (k : Frm s b c) : Frm s a c :=
  ⟨k.os.trans h.os, k.tape.trans h.tape, k.output.trans h.output, Nat.le_trans h.size k.size, fun i hi hs => (k.block i (Nat.lt_of_lt_of_le hi h.size) hs).trans (h.block i hi hs)⟩
theorem Frm.mono {s t : List Nat} {a b : World} (h : Frm s a b) (hst : ∀ x ∈ s, x ∈ t) : Frm t a b := ⟨h.os, h.tape, h.output, h.size, fun i hi ht => h.block i hi (fun hs => ht (hst i hs))⟩
/-- blocks that are new may turn too -/
theorem Frm.new {s t : List Nat} {a b c : World} (h : Frm s a b) (k : Frm t b c) (ht : ∀ x ∈ t, x ∈ s ∨ a.heap.size ≤ x) : Frm s a c :=
  ⟨k.os.trans h.os, k.tape.trans h.tape, k.output.trans h.output, Nat.le_trans h.size k.size, fun i hi hs => (k.block i (Nat.lt_of_lt_of_le hi h.size) (fun hx => by
    rcases ht i hx with h1 | h1
    · exact hs h1
    · omega)).trans (h.block i hi hs)⟩
theorem Ext.frm {s : List Nat} {a b : World} (h : Ext a b) : Frm s a b := ⟨h.os, h.tape, h.output, h.size, fun i hi _ => h.block i hi⟩
theorem Frm.ext {s : List Nat} {w0 a b : World} (h : Ext w0 a) (k : Frm s a b) (hs : ∀ x ∈ s, w0.heap.size ≤ x) : Ext w0 b :=
  ⟨k.os.trans h.os, k.tape.trans h.tape, k.output.trans h.output, Nat.le_trans h.size k.size, fun i hi => (k.block i (Nat.lt_of_lt_of_le hi h.size) (fun hx => by have := hs i hx; omega)).trans (h.block i hi)⟩
theorem Frm.nil {a b : World} (k : Frm [] a b) : Ext a b := Frm.ext (Ext.refl a) k (fun x hx => by cases hx)
theorem Frm.grown {s : List Nat} {a b c : World} {row : Option Nat} (h : Frm s a b) (hg : b.grownBy c row) (hr : ∀ k, row = some k → k ∈ s ∨ a.heap.size ≤ k) : Frm s a c :=
  ⟨hg.os.trans h.os, hg.tape.trans h.tape, hg.output.trans h.output, Nat.le_trans h.size hg.size, fun i hi hs => (hg.block i (Nat.lt_of_lt_of_le hi h.size) (fun e => by
    rcases hr i e.symm with h1 | h1
    · exact hs h1
    · omega)).trans (h.block i hi hs)⟩
theorem Frm.al {s : List Nat} {a b : World} (h : Frm s a b) (o : Obj) : Frm s a (b.alloc o) := h.grown (World.grownBy_alloc b o none) (fun k e => by cases e)
theorem Frm.dr {s : List Nat} {a b : World} (h : Frm s a b) : Frm s a b.drew := ⟨h.os, h.tape, h.output, h.size, h.block⟩
theorem Frm.drN {s : List Nat} {a b : World} (h : Frm s a b) (n : Nat) : Frm s a (b.drewN n) := by
  have e := (Ext.refl b).drN n
  exact h.tr e.frm
theorem grown_setAt (W : World) (b o : Nat) (v : Value) : W.grownBy (W.setCell ⟨b, o, none⟩ v) (some b) :=
  ⟨rfl, rfl, rfl, (KeepsWalks.setCell W _ v).size, fun k _ hk => Below.heap_setCell _ _ _ k (fun e => hk (by rw [e]))⟩
theorem Frm.st {s : List Nat} {a b : World} (h : Frm s a b) (g o : Nat) (v : Value) (hg : g ∈ s ∨ a.heap.size ≤ g) : Frm s a (b.setCell ⟨g, o, none⟩ v) :=
  h.grown (grown_setAt b g o v) (fun k e => by cases e; exact hg)
theorem Ext.st {w0 w : World} (h : Ext w0 w) {g : Nat} (hg : w0.heap.size ≤ g) (o : Nat) (v : Value) : Ext w0 (w.setCell ⟨g, o, none⟩ v) :=
  h.grown (grown_setAt w g o v) (fun k e => by cases e; exact hg)
/-- block g is just these cells, none of them frozen -/
def Blk (w : World) (g : Nat) (t : TypeId) (cs : List Value) : Prop := w.heap[g]? = some (.cells cs.toArray t (0, 0))
section
variable {w w' : World} {g : Nat} {t : TypeId} {cs : List Value}
theorem Blk.lt (h : Blk w g t cs) : g < w.heap.size := by
  rcases Nat.lt_or_ge g w.heap.size with hlt | hge
  · exact hlt
  · unfold Blk at h; rw [Array.getElem?_eq_none hge] at h; cases h
theorem Blk.cell (h : Blk w g t cs) (i : Nat) : w.cell? ⟨g, i, none⟩ = cs[i]? := by rw [cell_of_row w g i cs.toArray t (0, 0) h]; simp
theorem Blk.at_ (h : Blk w g t cs) {i : Nat} {v : Value} (hv : cs[i]? = some v) : w.cell? ⟨g, i, none⟩ = some v := (h.cell i).trans hv
theorem Blk.frozen (h : Blk w g t cs) (i : Nat) : w.frozen? ⟨g, i, none⟩ = false := by
  unfold Blk at h
  simp [World.frozen?, h]
theorem Blk.new (w : World) (t : TypeId) (cs : List Value) : Blk (w.alloc (.cells cs.toArray t)) w.heap.size t cs := heap_alloc_new w _
theorem Blk.drew (h : Blk w g t cs) : Blk w.drew g t cs := h
theorem Blk.drewN (h : Blk w g t cs) (n : Nat) : Blk (w.drewN n) g t cs := h
theorem Blk.set_ (h : Blk w g t cs) (i : Nat) (u : Value) : Blk (w.setCell ⟨g, i, none⟩ u) g t (cs.set i u) := by
  unfold Blk at h ⊢
  simp [World.setCell, Array.getElem?_modify, h]
theorem Blk.frm {s : List Nat} (h : Blk w g t cs) (hb : Frm s w w') (hg : g ∉ s) : Blk w' g t cs := (hb.block g h.lt hg).trans h
theorem Blk.ext (h : Blk w g t cs) (hb : Ext w w') : Blk w' g t cs := (hb.block g h.lt).trans h
theorem Blk.alloc (h : Blk w g t cs) (o : Obj) : Blk (w.alloc o) g t cs := h.ext ((Ext.refl w).al o)
theorem Blk.grown {row : Option Nat} (h : Blk w g t cs) (hb : w.grownBy w' row) (hg : some g ≠ row) : Blk w' g t cs := (hb.block g h.lt hg).trans h
theorem Blk.far (h : Blk w g t cs) {b o : Nat} (hp : g ≠ b) (u : Value) : Blk (w.setCell ⟨b, o, none⟩ u) g t cs := h.grown (grown_setAt w b o u) (by simpa using hp)
theorem Blk.ne_ {g' : Nat} {t' : TypeId} {cs' : List Value} (h : Blk w g t cs) (h' : Blk w g' t' cs') (hne : t ≠ t') : g ≠ g' := by
  rintro rfl
  unfold Blk at h h'
  rw [h] at h'
  injection h' with h'
  injection h' with _ ht
  exact hne ht
theorem own_blk_ne {base e : Nat} {size n : Nat} {v : Value} {xs : List Value} (h : w.ownsRow base e size v n xs) (hg : Blk w g t cs) (hne : e ≠ t) : some g ≠ v.ownBlock := by
  rcases h.2 with ⟨rfl, _⟩ | ⟨g', cap, cur, rfl, _, hh, _⟩
  · simp [Value.ownBlock]
  · intro he
    have : g = g' := by simpa [Value.ownBlock] using he
    subst this
    unfold Blk at hg
    rw [hh] at hg
    injection hg with hg
    injection hg with _ ht
    exact hne ht
end
/-- bytes whose block is none of the list -/
theorem Bs.frm {s : List Nat} {w w' : World} {a : Option Addr} {len : Nat} {l : List UInt8} (h : Bs w a len l) (hb : Frm s w w') (hs : ∀ b off, a = some ⟨b, off, none⟩ → b ∉ s) : Bs w' a len l :=
  ⟨h.leng, fun k hk => by
    obtain ⟨b, off, e, hc⟩ := h.cell k hk
    refine ⟨b, off, e, ?_⟩
    have hlt : b < w.heap.size := World.block_lt_of_cell? w _ hc
    rw [← hc]
    exact World.cell?_of_block (a := ⟨b, off + k, none⟩) (hb.block b hlt (hs b off e))⟩
theorem Bs.st {w : World} {a : Option Addr} {len : Nat} {l : List UInt8} (h : Bs w a len l) (g o : Nat) (v : Value) (hs : ∀ b off, a = some ⟨b, off, none⟩ → b ≠ g) : Bs (w.setCell ⟨g, o, none⟩ v) a len l :=
  h.frm (s := [g]) ((Frm.refl [g] w).st g o v (.inl (by simp))) (fun b off e hx => hs b off e (by simpa using hx))
theorem Ow.frm {s : List Nat} {w w' : World} {B : Nat} {a : Option Addr} {len cap : Nat} {l : List UInt8} (h : Ow w B a len cap l) (hb : Frm s w w') (hs : ∀ b off, a = some ⟨b, off, none⟩ → b ∉ s) : Ow w' B a len cap l := by
  refine ⟨h.1, ?_⟩
  rcases h.2 with h1 | ⟨g, cap', cur, e1, hg, hh, r⟩
  · exact .inl h1
  · have hlt : g < w.heap.size := by
      rcases Nat.lt_or_ge g w.heap.size with hlt | hge
      · exact hlt
      · rw [Array.getElem?_eq_none hge] at hh; cases hh
    simp only [Value.slice.injEq] at e1
    exact .inr ⟨g, cap', cur, by rw [e1.1, e1.2.2], hg, (hb.block g hlt (hs g 0 e1.1)).trans hh, r⟩
end Go.Proofs.Ytknllmcpogoeoaa
