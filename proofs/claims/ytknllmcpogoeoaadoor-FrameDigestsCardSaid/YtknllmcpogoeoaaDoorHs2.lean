/- Slices cut, nil tested, bytes copied into a Hash; a Hash of the bytes written so far. -/
import Derived.Test.YtknllmcpogoeoaaDoorHs
namespace Go.Proofs.YtknllmcpogoeoaaDoor
open Go.RowKit
set_option linter.unusedVariables false
set_option linter.unusedSimpArgs false
section
variable {P : Program} {w : World} {t : TypeId} {i j : Int}
theorem b_pnil {e : TypeId} {x : Option Addr} {c : Bool} (hu : P.underlying t = some (.pointer e)) (h : x.isNone = c) : (binOp .eql t (.pointer x) (.pointer none)).run P w = .ok (.bool c) w := by
  subst h
  exact run_eql_pointer_nil w t x (by simp [Program.pointee, hu])
theorem bi_copy {w' : World} {ts : Array TypeId} {ty : TypeId} {cs : Array Bool} {args : Array Value} {v : Value} (h : (Builtin.copy_ ts ty args).run P w = .ok v w') : (builtin .copy ts ty cs args).run P w = .ok (.value v) w' := by
  simp only [builtin, Sem.run_bind, h, Result.andThen_ok, Sem.run_pure]
theorem bi_app {w' : World} {ts : Array TypeId} {ty : TypeId} {cs : Array Bool} {args : Array Value} {v : Value} (h : (Builtin.append_ ts ty args).run P w = .ok v w') : (builtin .append ts ty cs args).run P w = .ok (.value v) w' := by
  simp only [builtin, Sem.run_bind, h, Result.andThen_ok, Sem.run_pure]
/-- where a slice begins behind a cut -/
def cutA (a : Option Addr) (c lo : Nat) : Option Addr := if c = lo then a else a.map (·.add lo)
theorem sl_lo {e : TypeId} {a : Option Addr} {n c lo : Nat} {q : IntKind} (hu : P.underlying t = some (.slice e)) (hs : ∀ w, (sizeOf e).run P w = .ok 1 w) (hi1 : i = (lo : Int)) (h1 : lo ≤ n) :
    (Instr.sliceAt t (.slice a n c) (some (.int q i)) none none).run P w = .ok (.slice (cutA a c lo) (n - lo) (c - lo)) w := by
  have he : P.elem t = e := by simp [Program.elem, hu]
  subst hi1
  rw [run_sliceAt_slice (P := P) w t _ _ _ _ (by rw [he]; exact hu), run_slice_l (P := P) w t a n c (by rw [he]; exact hu) q (lo : Int) (by omega) (by omega), he, hs]
  simp [sliced, cutA]
theorem sl_hi {e : TypeId} {a : Option Addr} {n c hi : Nat} {q : IntKind} (hu : P.underlying t = some (.slice e)) (hs : ∀ w, (sizeOf e).run P w = .ok 1 w) (hi1 : i = (hi : Int)) (h1 : hi ≤ c) :
    (Instr.sliceAt t (.slice a n c) none (some (.int q i)) none).run P w = .ok (.slice a hi c) w := by
  have he : P.elem t = e := by simp [Program.elem, hu]
  subst hi1
  rw [run_sliceAt_slice (P := P) w t _ _ _ _ (by rw [he]; exact hu), run_slice_h (P := P) w t a n c (by rw [he]; exact hu) q (hi : Int) (by omega) (by omega), he, hs]
  cases a <;> simp [sliced, Addr.add_zero']
theorem sl_lh {e : TypeId} {a : Option Addr} {n c lo hi : Nat} {q r : IntKind} (hu : P.underlying t = some (.slice e)) (hs : ∀ w, (sizeOf e).run P w = .ok 1 w) (hi1 : i = (lo : Int)) (hj : j = (hi : Int)) (h0 : lo ≤ hi) (h1 : hi ≤ c) :
    (Instr.sliceAt t (.slice a n c) (some (.int q i)) (some (.int r j)) none).run P w = .ok (.slice (cutA a c lo) (hi - lo) (c - lo)) w := by
  have he : P.elem t = e := by simp [Program.elem, hu]
  subst hi1 hj
  rw [run_sliceAt_slice (P := P) w t _ _ _ _ (by rw [he]; exact hu), run_slice_lh (P := P) w t a n c (by rw [he]; exact hu) q r (lo : Int) (hi : Int) (by omega) (by omega) (by omega), he, hs]
  simp [sliced, cutA]
end
/-- a good slice value of bytes: where it may lie -/
structure Sv (w : World) (a : Option Addr) (n c : Nat) (l : List UInt8) (g : Nat) : Prop where
  bs : Bs w a n l
  cap : n ≤ c
  nil : a = none → c = 0
  off : ∀ b o, a = some ⟨b, o, none⟩ → 0 < n → b ≠ g
theorem Sv.cut {w : World} {a : Option Addr} {n c : Nat} {l : List UInt8} {g : Nat} (h : Sv w a n c l g) (k : Nat) (hk : k ≤ n) : Sv w (cutA a c k) (n - k) (c - k) (l.drop k) g := by
  have hl := h.bs.leng
  refine ⟨?_, by have := h.cap; omega, ?_, ?_⟩
  · have := h.bs.sub k (n - k) (by omega) (a' := cutA a c k) (fun b off e hp => by
      subst e
      unfold cutA
      rw [if_neg (by have := h.cap; omega)]
      simp [Addr.add_lit])
    rwa [List.take_of_length_le (by simp; omega)] at this
  · intro e
    unfold cutA at e
    by_cases hc : c = k
    · omega
    · rw [if_neg hc] at e
      simp only [Option.map_eq_none_iff] at e
      have := h.nil e
      omega
  · intro b o e hp
    unfold cutA at e
    by_cases hc : c = k
    · have := h.cap; omega
    · rw [if_neg hc] at e
      simp only [Option.map_eq_some_iff] at e
      obtain ⟨⟨b', o', s'⟩, e1, e2⟩ := e
      subst e1
      have hb := h.bs.cell 0 (by omega)
      obtain ⟨b2, o2, e3, _⟩ := hb
      simp only [Option.some.injEq, Addr.mk.injEq] at e3
      obtain ⟨rfl, rfl, rfl⟩ := e3
      rw [Addr.add_lit] at e2
      simp only [Addr.mk.injEq] at e2
      rw [← e2.1]
      exact h.off b' o' rfl (by omega)
theorem Sv.frm {w w' : World} {a : Option Addr} {n c : Nat} {l : List UInt8} {g : Nat} (h : Sv w a n c l g) (k : Frm [g] w w') : Sv w' a n c l g := by
  refine ⟨⟨h.bs.leng, fun q hq => ?_⟩, h.cap, h.nil, h.off⟩
  obtain ⟨b, off, e, hc⟩ := h.bs.cell q hq
  refine ⟨b, off, e, ?_⟩
  have hlt : b < w.heap.size := World.block_lt_of_cell? w _ hc
  rw [← hc]
  exact World.cell?_of_block (a := ⟨b, off + q, none⟩) (k.block b hlt (by simpa using h.off b off e (by omega)))
theorem Sv.ext {w w' : World} {a : Option Addr} {n c : Nat} {l : List UInt8} {g : Nat} (h : Sv w a n c l g) (k : Ext w w') : Sv w' a n c l g := ⟨k.bs h.bs, h.cap, h.nil, h.off⟩
theorem splice_u8 (x y : List Value) (bs r : List UInt8) (at_ k : Nat) (hx : x.length = 8) (h1 : bs.length = 64) (h2 : at_ + k ≤ 64) (hr : r.length = k) :
    ((x ++ u8s bs ++ y).take (8 + at_) ++ u8s r ++ (x ++ u8s bs ++ y).drop (8 + at_ + k)) = x ++ u8s (bs.take at_ ++ r ++ bs.drop (at_ + k)) ++ y := by
  have hu := u8s_len bs
  rw [List.append_assoc x, List.take_append, List.take_of_length_le (by omega), hx, Nat.add_sub_cancel_left, List.take_append, show at_ - (u8s bs).length = 0 by omega, List.take_zero, List.append_nil,
    List.drop_append, List.drop_eq_nil_of_le (by omega), hx, show 8 + at_ + k - 8 = at_ + k by omega, List.drop_append, show at_ + k - (u8s bs).length = 0 by omega, List.drop_zero, List.nil_append]
  simp [u8s, List.map_take, List.map_drop]
theorem info5s : (Tryd.prog.info? 5).map (·.size) = some 1 := by
  obtain ⟨i0, hi, hz0, hz1, hz2⟩ := info_parts info5
  rw [hi]; simp [hz1]
/-- copy(h.block[at:], p) -/
theorem run_copyH {w : World} {g : Nat} {ws : List (BitVec 32)} {bs : List UInt8} {n at_ m cx : Nat} {ax : Option Addr} {r : List UInt8} (ty : TypeId) (h : Hsh w g ws bs n) (hs : Bs w ax m r) (hat : at_ < 64) :
    ∃ w', (Builtin.copy_ #[22, 22] ty #[.slice (some ⟨g, 8 + at_, none⟩) (64 - at_) (64 - at_), .slice ax m cx]).run Tryd.prog w = .ok (.int .i64 ((min m (64 - at_) : Nat) : Int)) w' ∧
      Hsh w' g ws (bs.take at_ ++ r.take (min m (64 - at_)) ++ bs.drop (at_ + min m (64 - at_))) n ∧ Frm [g] w w' := by
  have hl := hs.leng
  obtain ⟨k, hk⟩ : ∃ k, k = min m (64 - at_) := ⟨_, rfl⟩
  rw [← hk]
  by_cases h0 : k = 0
  · subst h0
    refine ⟨w, run_copy_none (P := Tryd.prog) w 22 22 ty 5 _ ax _ _ m cx Tryd.underlying22 info5s hk.symm, ?_, Frm.refl _ _⟩
    simpa using h
  · obtain ⟨b, off, rfl, hcell⟩ := hs.at (by omega)
    have hcl : (u8s (r.take k)).length = k := by rw [u8s_len, List.length_take]; omega
    have hrun := run_copy_row (P := Tryd.prog) w 22 22 ty 5 g (8 + at_) (64 - at_) (64 - at_) ⟨b, off, none⟩ m cx _ 74 (u8s (r.take k)) Tryd.underlying22 info5s h.blk (by rw [hcl, hk])
      (fun j v hv => by
        have hj : j < k := by have := (List.getElem?_eq_some_iff.1 hv).1; omega
        rw [u8s_get _ _ (by rw [List.length_take]; omega)] at hv
        rw [Addr.add_lit, hcell j (by omega), ← hv]
        simp [nb, hj]) (by rw [hcl]; simp [u32s_len, u8s_len, h.l8, h.l64]; omega) (u8s_one _)
    rw [hcl] at hrun
    refine ⟨_, hrun, ⟨?_, h.l8, ?_⟩, (Frm.refl [g] w).row_ g _ (.inl (by simp))⟩
    · unfold Blk
      rw [setRow_heap w g _ _ 74 (0, 0) h.blk, splice_u8 (u32s ws) [.int .u64 (n : Int)] bs (r.take k) at_ k (by rw [u32s_len, h.l8]) h.l64 (by omega) (by rw [List.length_take]; omega)]
    · simp [h.l64]; omega
/-- block g is a Hash to which the bytes l have been written -/
def HashIs (w : World) (g : Nat) (l : List UInt8) : Prop :=
  ∃ bs, Hsh w g (blk l (l.length / 64)).l bs l.length ∧ bs.take (l.length % 64) = l.drop (64 * (l.length / 64))
theorem HashIs.ext {w w' : World} {g : Nat} {l : List UInt8} (h : HashIs w g l) (e : Ext w w') : HashIs w' g l := by
  obtain ⟨bs, h1, h2⟩ := h
  exact ⟨bs, h1.ext e, h2⟩
theorem HashIs.frm {s : List Nat} {w w' : World} {g : Nat} {l : List UInt8} (h : HashIs w g l) (e : Frm s w w') (hg : g ∉ s) : HashIs w' g l := by
  obtain ⟨bs, h1, h2⟩ := h
  exact ⟨bs, h1.frm e hg, h2⟩
theorem HashIs.lt {w : World} {g : Nat} {l : List UInt8} (h : HashIs w g l) : g < w.heap.size := by
  obtain ⟨bs, h1, h2⟩ := h
  exact h1.blk.lt
/-- a piece that does not fill the block -/
theorem piece_part (l r bs : List UInt8) (h2 : bs.take (l.length % 64) = l.drop (64 * (l.length / 64))) (hk : l.length % 64 + r.length < 64) (hb : bs.length = 64) :
    (l ++ r).length / 64 = l.length / 64 ∧ (l ++ r).length % 64 = l.length % 64 + r.length ∧
    (bs.take (l.length % 64) ++ r ++ bs.drop (l.length % 64 + r.length)).take (l.length % 64 + r.length) = (l ++ r).drop (64 * (l.length / 64)) ∧ blk (l ++ r) (l.length / 64) = blk l (l.length / 64) := by
  refine ⟨by rw [List.length_append]; omega, by rw [List.length_append]; omega, ?_, blk_app l r _ (by omega)⟩
  have hl : (bs.take (l.length % 64) ++ r).length = l.length % 64 + r.length := by rw [List.length_append, List.length_take]; omega
  rw [List.take_append_of_le_length (by omega), List.take_of_length_le (by omega), h2, List.drop_append_of_le_length (by omega)]
/-- a piece that fills it -/
theorem piece_full (l r bs : List UInt8) (h2 : bs.take (l.length % 64) = l.drop (64 * (l.length / 64))) (hk : l.length % 64 + r.length = 64) (hb : bs.length = 64) :
    (l ++ r).length / 64 = l.length / 64 + 1 ∧ (l ++ r).length % 64 = 0 ∧
    cmpr (blk l (l.length / 64)) (bs.take (l.length % 64) ++ r ++ bs.drop (l.length % 64 + r.length)) = blk (l ++ r) (l.length / 64 + 1) := by
  refine ⟨by rw [List.length_append]; omega, by rw [List.length_append]; omega, ?_⟩
  rw [hk, List.drop_eq_nil_of_le (by omega), List.append_nil, h2]
  show _ = cmpr (blk (l ++ r) (l.length / 64)) _
  rw [blk_app l r _ (by omega), List.drop_append_of_le_length (by omega), List.take_of_length_le (by rw [List.length_append, List.length_drop]; omega)]
end Go.Proofs.YtknllmcpogoeoaaDoor
