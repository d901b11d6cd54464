/- Slices made, rows of bytes filled, results that lie in memory. -/
import Derived.Test.YtknllmcpogoeoaaDoorHs2
import Derived.Laws.MakeOwn
namespace Go.Proofs.YtknllmcpogoeoaaDoor
open Go.RowKit
set_option linter.unusedVariables false
set_option linter.unusedSimpArgs false
theorem made_u8 (n : Nat) : madeCells #[.int .u8 0] n = (u8s (List.replicate n 0)).toArray := by
  apply Array.ext
  · simp [madeCells, u8s]
  · intro i h1 h2
    simp [madeCells, u8s, Nat.mod_one]
theorem mk_u8 {w : World} {i j : Int} {n c : Nat} (hi : i = (n : Int)) (hj : j = (c : Int)) (h1 : n ≤ c) (h2 : c ≤ 140737488355328) :
    (Instr.makeSlice 22 (.int .i64 i) (.int .i64 j)).run Tryd.prog w = .ok (.slice (some ⟨w.heap.size, 0, none⟩) n c) (w.alloc (.cells (u8s (List.replicate c 0)).toArray 5)) := by
  subst hi hj
  obtain ⟨i0, hi, hz0, hz1, hz2⟩ := info_parts info5
  have h := run_make w 22 5 i0 (.int .u8 0) Tryd.underlying22 hi hz0 .i64 .i64 (n : Int) (c : Int) (by omega) (by omega) (by rw [hz2]; omega) (by omega)
  rw [h, hz1]
  simp only [Int.toNat_natCast, Nat.mul_one]
  rw [show (Value.int IntKind.u8 0).cells = #[.int .u8 0] from rfl, made_u8]
theorem fill_u8 (l : List UInt8) (k m : Nat) (x : UInt8) (h : l.length = k) : (l ++ List.replicate (m + 1) 0).set k x = (l ++ [x]) ++ List.replicate m 0 := by
  subst h
  rw [List.set_append_right _ _ (Nat.le_refl _), Nat.sub_self, List.replicate_succ]
  simp
theorem fill_u8_4 (l : List UInt8) (k m : Nat) (a b c d : UInt8) (h : l.length = k) : ((((l ++ List.replicate (m + 4) 0).set k a).set (k + 1) b).set (k + 2) c).set (k + 3) d = (l ++ [a, b, c, d]) ++ List.replicate m 0 := by
  rw [fill_u8 l k (m + 3) a h, fill_u8 _ (k + 1) (m + 2) b (by simp [h]), fill_u8 _ (k + 2) (m + 1) c (by simp [h]), fill_u8 _ (k + 3) m d (by simp [h])]
  simp
theorem ofNat_mod (n : Nat) : (UInt8.ofNat n).toNat = n % 256 := by simp
theorem wrap_u8_nat (n : Nat) : IntKind.u8.wrap (n : Int) = ((UInt8.ofNat n).toNat : Int) := by
  rw [IntKind.wrap_u8, ofNat_mod]; omega
section
variable {P : Program} {a : Act} {N : Nat} {l : List (Nat × Value)} {w : World}
theorem retc {fn : Func} {p : Nat} {ty t : TypeId} {R : Ending → World → Prop} {g : Nat} {cs : Array Value} {d : TypeDesc} (H : Has a N l) (hr : fn.results = #[.cell p ty]) (e : lk l p = some (.pointer (some ⟨g, 0, none⟩)))
    (hg : w.heap[g]? = some (.cells cs t (0, 0))) (hu : P.underlying ty = some d) (hd : (match d with | .struct _ | .array _ _ => true | _ => false) = true) (hi : (P.info? ty).map (·.size) = some cs.size)
    (h : R (.returned (.agg cs)) w) : bodyPost P fn R .ret a w :=
  bodyPost_ret (results_cell_row hr _ _ g t cs (0, 0) d (H.ev (x := .tmp p) e) hg hu hd hi) H.nod h
end
/-- a block of bytes of which one is set -/
theorem Blk.setU8 {w : World} {g : Nat} {t : TypeId} {l : List UInt8} (h : Blk w g t (u8s l)) (k : Nat) (x : UInt8) : Blk (w.setCell ⟨g, k, none⟩ (.int .u8 (x.toNat : Int))) g t (u8s (l.set k x)) := by
  have := h.set_ k (.int .u8 (x.toNat : Int))
  rwa [u8s_set] at this
theorem Blk.bs {w : World} {g n : Nat} {l : List UInt8} {t : TypeId} (h : Blk w g t (u8s l)) (hn : l.length = n) : Bs w (some ⟨g, 0, none⟩) n l := by
  refine ⟨hn, fun k hk => ⟨g, 0, rfl, ?_⟩⟩
  rw [Nat.zero_add, h.cell]
  exact u8s_get l k (by omega)
theorem z26 (w : World) : (zeroValue 26).run Tryd.prog w = .ok (.agg (u8s (List.replicate 32 0)).toArray) w := by rw [Tryd.zeroValue26]; rfl
theorem be8_succ (n i : Nat) : (List.range (i + 1)).map (fun i => UInt8.ofNat (n / 2 ^ (56 - 8 * i))) = (List.range i).map (fun i => UInt8.ofNat (n / 2 ^ (56 - 8 * i))) ++ [UInt8.ofNat (n / 2 ^ (56 - 8 * i))] := by simp [List.range_succ]
def o4 (x : BitVec 32) : List UInt8 := [UInt8.ofNat (x.toNat / 16777216), UInt8.ofNat (x.toNat / 65536), UInt8.ofNat (x.toNat / 256), UInt8.ofNat x.toNat]
/-- the first 4 i bytes of the result -/
def oP (ws : List (BitVec 32)) (i : Nat) : List UInt8 := (ws.take i).flatMap o4
theorem oP_succ (ws : List (BitVec 32)) (i : Nat) (h : i < ws.length) : oP ws (i + 1) = oP ws i ++ o4 (wat ws i) := by
  unfold oP
  rw [List.take_succ_eq_append_getElem h, List.flatMap_append]
  simp [wat, h]
theorem oP_len (ws : List (BitVec 32)) (i : Nat) (h : i ≤ ws.length) : (oP ws i).length = 4 * i := by
  induction i with
  | zero => rfl
  | succ i ih =>
    rw [oP_succ ws i (by omega), List.length_append, ih (by omega)]
    simp [o4]
    omega
theorem oP_all (s : S8) : oP s.l 8 = out8 s := rfl
theorem shr_b (x : BitVec 32) (m : Nat) (hm : m ≤ 32) {i : Int} (hi : i = (m : Int)) : wn x / 2 ^ min i.toNat IntKind.u32.bits = ((x.toNat / 2 ^ m : Nat) : Int) := by
  rw [min_b32 m hi hm]; unfold wn; simp
end Go.Proofs.YtknllmcpogoeoaaDoor
