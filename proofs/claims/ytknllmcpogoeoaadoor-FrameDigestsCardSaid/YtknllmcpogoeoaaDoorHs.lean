/- The block of a Hash: its words, its bytes, its total; the table of constants; worlds in which rows are stored. -/
import Derived.Test.YtknllmcpogoeoaaDoorEng2
import Derived.Test.YtknllmcpogoeoaaDoorWd
namespace Go.Proofs.YtknllmcpogoeoaaDoor
open Go.RowKit
set_option linter.unusedVariables false
set_option linter.unusedSimpArgs false
/-- block g is a Hash -/
structure Hsh (w : World) (g : Nat) (ws : List (BitVec 32)) (bs : List UInt8) (n : Nat) : Prop where
  blk : Blk w g 74 (u32s ws ++ u8s bs ++ [.int .u64 (n : Int)])
  l8 : ws.length = 8
  l64 : bs.length = 64
section
variable {w w' : World} {g : Nat} {ws : List (BitVec 32)} {bs : List UInt8} {n : Nat}
theorem Hsh.word (h : Hsh w g ws bs n) (i : Nat) (hi : i < 8) : w.cell? ⟨g, i, none⟩ = some (.int .u32 (wn (wat ws i))) := by
  rw [h.blk.cell, List.append_assoc, List.getElem?_append_left (by rw [u32s_len, h.l8]; exact hi)]
  exact u32s_get ws i (by rw [h.l8]; exact hi)
theorem Hsh.byte (h : Hsh w g ws bs n) (i : Nat) (hi : i < 64) : w.cell? ⟨g, 8 + i, none⟩ = some (.int .u8 (bt bs i : Int)) := by
  rw [h.blk.cell, List.append_assoc, List.getElem?_append_right (by rw [u32s_len, h.l8]; omega), u32s_len, h.l8, List.getElem?_append_left (by rw [u8s_len, h.l64]; omega), show 8 + i - 8 = i by omega]
  exact u8s_get bs i (by rw [h.l64]; exact hi)
theorem Hsh.byte2 (h : Hsh w g ws bs n) (p q : Nat) (hi : p + q < 64) : w.cell? ⟨g, 8 + p + q, none⟩ = some (.int .u8 (bt bs (p + q) : Int)) := by
  rw [Nat.add_assoc]; exact h.byte _ hi
theorem Hsh.tot (h : Hsh w g ws bs n) : w.cell? ⟨g, 72, none⟩ = some (.int .u64 (n : Int)) := by
  rw [h.blk.cell, List.getElem?_append_right (by simp [u32s_len, u8s_len, h.l8, h.l64])]
  simp [u32s_len, u8s_len, h.l8, h.l64]
theorem Hsh.some (h : Hsh w g ws bs n) (i : Nat) (hi : i < 73) : (w.cell? ⟨g, i, none⟩).isSome = true := by
  rw [h.blk.cell, List.getElem?_eq_getElem (by simp [u32s_len, u8s_len, h.l8, h.l64]; omega)]; rfl
theorem Hsh.setW (h : Hsh w g ws bs n) (i : Nat) (hi : i < 8) (x : BitVec 32) : Hsh (w.setCell ⟨g, i, none⟩ (.int .u32 (wn x))) g (ws.set i x) bs n := by
  refine ⟨?_, by simp [h.l8], h.l64⟩
  have := h.blk.set_ i (.int .u32 (wn x))
  rwa [List.append_assoc, List.set_append_left _ _ (by rw [u32s_len, h.l8]; exact hi), u32s_set, ← List.append_assoc] at this
theorem Hsh.setB (h : Hsh w g ws bs n) (i : Nat) (hi : i < 64) (x : UInt8) : Hsh (w.setCell ⟨g, 8 + i, none⟩ (.int .u8 (x.toNat : Int))) g ws (bs.set i x) n := by
  refine ⟨?_, h.l8, by simp [h.l64]⟩
  have := h.blk.set_ (8 + i) (.int .u8 (x.toNat : Int))
  rwa [List.append_assoc, List.set_append_right _ _ (by rw [u32s_len, h.l8]; omega), u32s_len, h.l8, List.set_append_left _ _ (by rw [u8s_len, h.l64]; omega), show 8 + i - 8 = i by omega, u8s_set, ← List.append_assoc] at this
theorem Hsh.setT (h : Hsh w g ws bs n) (m : Nat) : Hsh (w.setCell ⟨g, 72, none⟩ (.int .u64 (m : Int))) g ws bs m := by
  refine ⟨?_, h.l8, h.l64⟩
  have := h.blk.set_ 72 (.int .u64 (m : Int))
  rw [List.set_append_right _ _ (by simp [u32s_len, u8s_len, h.l8, h.l64])] at this
  simpa [u32s_len, u8s_len, h.l8, h.l64] using this
theorem Hsh.frm {s : List Nat} (h : Hsh w g ws bs n) (hb : Frm s w w') (hg : g ∉ s) : Hsh w' g ws bs n := ⟨h.blk.frm hb hg, h.l8, h.l64⟩
theorem Hsh.ext (h : Hsh w g ws bs n) (hb : Ext w w') : Hsh w' g ws bs n := ⟨h.blk.ext hb, h.l8, h.l64⟩
theorem Hsh.dr (h : Hsh w g ws bs n) : Hsh w.drew g ws bs n := ⟨h.blk, h.l8, h.l64⟩
theorem Blk.isSome {t : TypeId} {cs : List Value} (h : Blk w g t cs) (i : Nat) (hi : i < cs.length) : (w.cell? ⟨g, i, none⟩).isSome = true := by
  rw [h.cell, List.getElem?_eq_getElem hi]; rfl
theorem Blk.row {t : TypeId} {cs : List Value} (h : Blk w g t cs) (ds : List Value) : Blk (w.setRow g ds.toArray) g t ds := setRow_heap w g _ _ t (0, 0) h
theorem grown_setRow (W : World) (g : Nat) (cs : Array Value) : W.grownBy (W.setRow g cs) (Option.some g) := by
  refine ⟨rfl, rfl, rfl, by simp, fun k _ hk => setRow_other W g k cs (fun e => hk (by rw [e]))⟩
theorem Ext.row_ {w0 w : World} (h : Ext w0 w) {g : Nat} (hg : w0.heap.size ≤ g) (cs : Array Value) : Ext w0 (w.setRow g cs) :=
  h.grown (grown_setRow w g cs) (fun k e => by cases e; exact hg)
theorem Frm.row_ {s : List Nat} {a b : World} (h : Frm s a b) (g : Nat) (cs : Array Value) (hg : g ∈ s ∨ a.heap.size ≤ g) : Frm s a (b.setRow g cs) :=
  h.grown (grown_setRow b g cs) (fun k e => by cases e; exact hg)
end
/-- a row of words that is filled from the left -/
theorem fill_set (l : List (BitVec 32)) (k m : Nat) (x z : BitVec 32) (h : l.length = k) : (l ++ List.replicate (m + 1) z).set k x = (l ++ [x]) ++ List.replicate m z := by
  subst h
  rw [List.set_append_right _ _ (Nat.le_refl _), Nat.sub_self, List.replicate_succ]
  simp
theorem wat_left (l r : List (BitVec 32)) (i : Nat) (h : i < l.length) : wat (l ++ r) i = wat l i := by
  unfold wat; rw [List.getElem?_append_left h]
theorem take_set (A B : List (BitVec 32)) (i : Nat) (ha : i < A.length) (hab : A.length = B.length) : (A.take i ++ B.drop i).set i (wat A i) = A.take (i + 1) ++ B.drop (i + 1) := by
  have hl : (A.take i).length = i := by rw [List.length_take]; omega
  rw [List.set_append_right _ _ (by omega), hl, Nat.sub_self, List.drop_eq_getElem_cons (by omega), List.set_cons_zero, List.take_succ_eq_append_getElem ha]
  have e : wat A i = A[i] := by simp [wat, ha]
  rw [e, List.append_assoc]
  rfl
theorem wat_take (A B : List (BitVec 32)) (i : Nat) (ha : i < A.length) : wat (A.take i ++ B.drop i) i = wat B i := by
  have hl : (A.take i).length = i := by rw [List.length_take]; omega
  unfold wat
  rw [List.getElem?_append_right (by omega), hl, Nat.sub_self, List.getElem?_drop, Nat.add_zero]
theorem add8_at (s r : S8) (i : Nat) (h : i < 8) : wat (add8 s r).l i = wat s.l i + wat r.l i := by
  match i, h with
  | 0, _ | 1, _ | 2, _ | 3, _ | 4, _ | 5, _ | 6, _ | 7, _ => rfl
theorem S8.len (s : S8) : s.l.length = 8 := rfl
/-- the table of constants lies in block 0 -/
def Kc (w : World) : Prop := ∀ i, i < 64 → w.cell? ⟨0, i, none⟩ = some (.int .u32 (wn (wat kc i)))
theorem Kc.ext {w w' : World} (h : Kc w) (e : Ext w w') : Kc w' := fun i hi => Ext.cell e (h i hi)
theorem Kc.frm {s : List Nat} {w w' : World} (h : Kc w) (e : Frm s w w') (h0 : 0 ∉ s) : Kc w' := fun i hi => by
  have hc := h i hi
  have hlt : 0 < w.heap.size := World.block_lt_of_cell? w _ hc
  rw [← hc]
  exact World.cell?_of_block (a := ⟨0, i, none⟩) (e.block 0 hlt h0)
theorem fa74_0 (b : Nat) (w : World) : (Instr.fieldAt 74 (.pointer (some ⟨b, 0, none⟩)) 0).run Tryd.prog w = .ok (.pointer (some ⟨b, 0, none⟩)) w := by kernel_rfl
theorem fa74_1 (b : Nat) (w : World) : (Instr.fieldAt 74 (.pointer (some ⟨b, 0, none⟩)) 1).run Tryd.prog w = .ok (.pointer (some ⟨b, 8, none⟩)) w := by kernel_rfl
theorem fa74_2 (b : Nat) (w : World) : (Instr.fieldAt 74 (.pointer (some ⟨b, 0, none⟩)) 2).run Tryd.prog w = .ok (.pointer (some ⟨b, 72, none⟩)) w := by kernel_rfl
theorem z91 (w : World) : (zeroValue 91).run Tryd.prog w = .ok (.agg (u32s (List.replicate 64 0#32)).toArray) w := by rw [Tryd.zeroValue91]; rfl
theorem z67 (w : World) : (zeroValue 67).run Tryd.prog w = .ok (.agg (u32s (List.replicate 8 0#32)).toArray) w := by rw [Tryd.zeroValue67]; rfl
theorem sh24 (x : Nat) (h : x < 256) : IntKind.u32.wrap ((x : Int) * 2 ^ min (24 : Int).toNat IntKind.u32.bits) = (x : Int) * 16777216 := by
  rw [min_b32 (i := (24 : Int)) 24 rfl (by omega), IntKind.wrap_u32]; omega
theorem sh16 (x : Nat) (h : x < 256) : IntKind.u32.wrap ((x : Int) * 2 ^ min (16 : Int).toNat IntKind.u32.bits) = (x : Int) * 65536 := by
  rw [min_b32 (i := (16 : Int)) 16 rfl (by omega), IntKind.wrap_u32]; omega
theorem sh8 (x : Nat) (h : x < 256) : IntKind.u32.wrap ((x : Int) * 2 ^ min (8 : Int).toNat IntKind.u32.bits) = (x : Int) * 256 := by
  rw [min_b32 (i := (8 : Int)) 8 rfl (by omega), IntKind.wrap_u32]; omega
end Go.Proofs.YtknllmcpogoeoaaDoor
