/- Rows of one-cell elements, anywhere in a block of the call's own: appends, cuts, stores; small laws of built-ins. -/
import Derived.Test.YtknllmcpogoeoaaT4
import Derived.Deep.AppendSrc
namespace Go.Proofs.Ytknllmcpogoeoaa
open Go.RowKit
set_option linter.unusedVariables false
set_option linter.unusedSimpArgs false
set_option maxRecDepth 100000
/-- v is a slice of the elements xs in a block of the call's own -/
def Rw (w : World) (B e : Nat) (v : Value) (xs : List Value) : Prop :=
  (v = .slice none 0 0 ∧ xs = []) ∨
   ∃ g off cap cur, v = .slice (some ⟨g, off, none⟩) xs.length cap ∧ B ≤ g ∧ w.heap[g]? = some (.cells cur e (0, 0)) ∧ xs.length ≤ cap ∧ cap ≤ maxLen ∧ off + cap ≤ cur.size ∧ (cur.toList.drop off).take xs.length = xs
section
variable {w w' : World} {B e : Nat} {v : Value} {xs : List Value}
theorem Rw.nil (w : World) (B e : Nat) : Rw w B e (.slice none 0 0) [] := .inl ⟨rfl, rfl⟩
theorem Rw.shape (h : Rw w B e v xs) : ∃ a c, v = .slice a xs.length c ∧ xs.length ≤ c ∧ (a = none → xs.length = 0 ∧ c = 0) := by
  rcases h with ⟨rfl, rfl⟩ | ⟨g, off, cap, cur, rfl, _, _, hn, _⟩
  · exact ⟨none, 0, rfl, Nat.le_refl _, fun _ => ⟨rfl, rfl⟩⟩
  · exact ⟨_, cap, rfl, hn, fun h => by cases h⟩
theorem Rw.blk (h : Rw w B e v xs) : ∀ g, v.ownBlock = some g → B ≤ g ∧ g < w.heap.size ∧ ∃ cur, w.heap[g]? = some (.cells cur e (0, 0)) := by
  intro g hg
  rcases h with ⟨rfl, _⟩ | ⟨g', off, cap, cur, rfl, hb, hh, _⟩
  · simp [Value.ownBlock] at hg
  · simp [Value.ownBlock] at hg
    subst hg
    refine ⟨hb, ?_, cur, hh⟩
    rcases Nat.lt_or_ge g' w.heap.size with hl | hl
    · exact hl
    · rw [Array.getElem?_eq_none hl] at hh; cases hh
theorem Rw.heap (h : Rw w B e v xs) (hk : ∀ g, v.ownBlock = some g → w'.heap[g]? = w.heap[g]?) : Rw w' B e v xs := by
  rcases h with h1 | ⟨g, off, cap, cur, rfl, hb, hh, r⟩
  · exact .inl h1
  · exact .inr ⟨g, off, cap, cur, rfl, hb, (hk g rfl).trans hh, r⟩
theorem Rw.frm {s : List Nat} (h : Rw w B e v xs) (F : Frm s w w') (hs : ∀ g, v.ownBlock = some g → g ∉ s) : Rw w' B e v xs :=
  h.heap fun g hg => F.block g (h.blk g hg).2.1 (hs g hg)
theorem Rw.ext (h : Rw w B e v xs) (E : Ext w w') : Rw w' B e v xs := h.heap fun g hg => E.block g (h.blk g hg).2.1
theorem Rw.grown {row : Option Nat} (h : Rw w B e v xs) (G : w.grownBy w' row) (hs : ∀ g, v.ownBlock = some g → some g ≠ row) : Rw w' B e v xs := h.heap fun g hg => G.block g (h.blk g hg).2.1 (hs g hg)
theorem Rw.mono {B' : Nat} (h : Rw w B e v xs) (hB : B' ≤ B) : Rw w B' e v xs := by
  rcases h with h1 | ⟨g, off, cap, cur, rfl, hb, r⟩
  · exact .inl h1
  · exact .inr ⟨g, off, cap, cur, rfl, by omega, r⟩
/-- it is no block of another type -/
theorem Rw.nt {k t : Nat} {cur : Array Value} {fr : Nat × Nat} (h : Rw w B e v xs) (hk : w.heap[k]? = some (.cells cur t fr)) (hne : e ≠ t) : v.ownBlock ≠ some k := by
  intro hg
  obtain ⟨_, _, cur', h'⟩ := h.blk k hg
  rw [hk] at h'
  simp only [Option.some.injEq, Obj.cells.injEq] at h'
  exact hne h'.2.1.symm
theorem Rw.cells {g off n c : Nat} (h : Rw w B e (.slice (some ⟨g, off, none⟩) n c) xs) : ∀ j u, xs[j]? = some u → w.cell? ⟨g, off + j, none⟩ = some u := by
  intro j u hu
  rcases h with ⟨h1, _⟩ | ⟨g', off', cap, cur, h1, hb, hh, hn, hm, hs, ht⟩
  · cases h1
  · simp only [Value.slice.injEq, Option.some.injEq, Addr.mk.injEq] at h1
    obtain ⟨⟨rfl, rfl, _⟩, _, rfl⟩ := h1
    rw [cell_of_row w _ _ cur e (0, 0) hh]
    rw [← ht, List.getElem?_take] at hu
    split at hu
    · rw [List.getElem?_drop] at hu
      simpa using hu
    · cases hu
theorem Rw.froz {g off n c : Nat} (h : Rw w B e (.slice (some ⟨g, off, none⟩) n c) xs) (k : Nat) : w.frozen? ⟨g, k, none⟩ = false := by
  rcases h with ⟨h1, _⟩ | ⟨g', off', cap, cur, h1, hb, hh, _⟩
  · cases h1
  · simp only [Value.slice.injEq, Option.some.injEq, Addr.mk.injEq] at h1
    obtain ⟨⟨rfl, _⟩, _⟩ := h1
    simp [World.frozen?, hh]
theorem Rw.pos (h : Rw w B e v xs) (hx : 0 < xs.length) : ∃ g off c, v = .slice (some ⟨g, off, none⟩) xs.length c := by
  rcases h with ⟨_, h0⟩ | ⟨g, off, cap, cur, h1, _⟩
  · rw [h0] at hx; simp at hx
  · exact ⟨g, off, cap, h1⟩
theorem take_drop_take {α : Type} (l : List α) (a b n : Nat) (h : a + b ≤ n) : (l.drop a).take b = ((l.take n).drop a).take b := by
  rw [List.drop_take, List.take_take, Nat.min_eq_left (by omega)]
/-- a part of the front is cut away -/
theorem Rw.cut {a : Option Addr} {n c : Nat} (h : Rw w B e (.slice a n c) xs) (k : Nat) (hk : k ≤ xs.length) : Rw w B e (.slice (cutA a c k) (n - k) (c - k)) (xs.drop k) := by
  unfold cutA
  rcases h with ⟨h1, rfl⟩ | ⟨g, off, cap, cur, h1, hb, hh, hn, hm, hs, ht⟩
  · simp only [Value.slice.injEq] at h1
    obtain ⟨rfl, rfl, rfl⟩ := h1
    obtain rfl : k = 0 := by simpa using hk
    exact .inl ⟨by simp, rfl⟩
  · simp only [Value.slice.injEq] at h1
    obtain ⟨rfl, rfl, rfl⟩ := h1
    have htd : (cur.toList.drop (off + k)).take (xs.length - k) = xs.drop k := by
      conv => rhs; rw [← ht]
      rw [List.drop_take, List.drop_drop]
    by_cases hc : c = k
    · rw [if_pos hc]
      have hxl : xs.length = k := by omega
      refine .inr ⟨g, off, c - k, cur, by rw [List.length_drop], hb, hh, by rw [List.length_drop]; omega, by omega, by omega, ?_⟩
      have : xs.drop k = [] := List.drop_eq_nil_of_le (by omega)
      rw [this]; simp
    · rw [if_neg hc]
      refine .inr ⟨g, off + k, c - k, cur, by simp [Addr.add_lit], hb, hh, by rw [List.length_drop]; omega, by omega, by omega, ?_⟩
      rw [List.length_drop]
      exact htd
/-- only a front is kept -/
theorem Rw.pre {a : Option Addr} {n c : Nat} (h : Rw w B e (.slice a n c) xs) (k : Nat) (hk : k ≤ xs.length) : Rw w B e (.slice a k c) (xs.take k) := by
  rcases h with ⟨h1, rfl⟩ | ⟨g, off, cap, cur, h1, hb, hh, hn, hm, hs, ht⟩
  · simp only [Value.slice.injEq] at h1
    obtain ⟨rfl, rfl, rfl⟩ := h1
    obtain rfl : k = 0 := by simpa using hk
    exact .inl ⟨rfl, rfl⟩
  · simp only [Value.slice.injEq] at h1
    obtain ⟨rfl, rfl, rfl⟩ := h1
    have hl : (xs.take k).length = k := by rw [List.length_take]; omega
    refine .inr ⟨g, off, c, cur, by rw [hl], hb, hh, by rw [hl]; omega, hm, hs, ?_⟩
    rw [hl]
    conv => rhs; rw [← ht]
    rw [List.take_take, Nat.min_eq_left hk]
/-- one element is written -/
theorem Rw.set {g off n c : Nat} (h : Rw w B e (.slice (some ⟨g, off, none⟩) n c) xs) (k : Nat) (hk : k < xs.length) (u : Value) : Rw (w.setCell ⟨g, off + k, none⟩ u) B e (.slice (some ⟨g, off, none⟩) n c) (xs.set k u) := by
  rcases h with ⟨h1, _⟩ | ⟨g', off', cap, cur, h1, hb, hh, hn, hm, hs, ht⟩
  · cases h1
  · simp only [Value.slice.injEq, Option.some.injEq, Addr.mk.injEq] at h1
    obtain ⟨⟨rfl, rfl, _⟩, rfl, rfl⟩ := h1
    refine .inr ⟨g, off, c, cur.setIfInBounds (off + k) u, by rw [List.length_set], hb, ?_, by rw [List.length_set]; exact hn, hm, by simpa using hs, ?_⟩
    · simp [World.setCell, Array.getElem?_modify, hh]
    · rw [List.length_set]
      conv => rhs; rw [← ht]
      rw [Array.toList_setIfInBounds]
      apply List.ext_getElem?
      intro j
      rw [List.getElem?_take, List.getElem?_drop, List.getElem?_set, List.getElem?_set, List.getElem?_take, List.getElem?_drop, List.length_take, List.length_drop]
      have hcl : cur.toList.length = cur.size := by simp
      by_cases hj : k = j
      · subst hj
        rw [if_pos hk, if_pos rfl, if_pos rfl, if_pos (by omega), if_pos (by omega)]
      · have : ¬ off + k = off + j := by omega
        rw [if_neg this, if_neg hj]
/-- a new block -/
theorem Rw.new (w : World) (B e : Nat) (cs : List Value) (hB : B ≤ w.heap.size) (hn : cs.length ≤ 140737488355328) : Rw (w.alloc (.cells cs.toArray e)) B e (.slice (some ⟨w.heap.size, 0, none⟩) cs.length cs.length) cs :=
  .inr ⟨w.heap.size, 0, cs.length, cs.toArray, rfl, hB, heap_alloc_new w _, Nat.le_refl _, by unfold maxLen; omega, by simp, by simp⟩
theorem Rw.of (h : w.ownsRow B e 1 v xs.length xs) : Rw w B e v xs := by
  rcases h.2 with ⟨h1, h0⟩ | ⟨g, cap, cur, rfl, hb, hg, hn, hm, hs, ht⟩
  · exact .inl ⟨h1, List.eq_nil_of_length_eq_zero h0⟩
  · exact .inr ⟨g, 0, cap, cur, rfl, hb, hg, hn, hm, by omega, by simpa using ht⟩
end
theorem Ow.rw_ {w : World} {B : Nat} {a : Option Addr} {n c : Nat} {l : List UInt8} (h : Ow w B a n c l) : Rw w B 5 (.slice a n c) (u8s l) := by
  have := h.leng
  refine Rw.of ?_
  rw [u8s_len, this]; exact h
theorem append_room_off {P : Program} (w : World) (t ty e : TypeId) (i : TypeInfo) (ht : P.underlying t = some (.slice e)) (hi : P.info? e = some i) (hsz : i.size = 1)
    (g off sLen sCap : Nat) (cur : Array Value) (hg : w.heap[g]? = some (.cells cur e (0, 0)))
    (a : Addr) (m c : Nat) (news : List Value) (hl : news.length = m) (hnews : ∀ j u, news[j]? = some u → w.cell? (a.add j) = some u) (h1 : ∀ u ∈ news, u.oneCell' = true)
    (hroom : sLen + m ≤ sCap) (hfit : off + sLen + news.length ≤ cur.size) :
    (Builtin.append_ #[t, t] ty #[.slice (some ⟨g, off, none⟩) sLen sCap, .slice (some a) m c]).run P w =
      .ok (.slice (some ⟨g, off, none⟩) (sLen + m) sCap) (w.setRow g (cur.toList.take (off + sLen) ++ news ++ cur.toList.drop (off + sLen + news.length)).toArray) := by
  have hf := run_firstCells_some (P := P) w i.size m a m c news (by rw [hsz, Nat.mul_one]; exact hl) hnews
  have hst := run_storeCells_at P g (off + sLen * i.size) e news 0 cur w hg (by rw [hsz]; simpa using hfit) h1
  simp only [Nat.add_zero, hsz, Nat.mul_one] at hst hf
  simp [Builtin.append_, run_underlying ht, sizeOf, typeInfo, hi, Builtin.lenOf, hroom, hf, Addr.add_lit, hst, hsz]
/-- APPEND: a row behind a row. -/
theorem Rw.app {t e bytes : Nat} {z : Value} (T : ElemT t e 1 bytes z) (w : World) (ty : TypeId) (B : Nat) {v : Value} {xs : List Value} (ho : Rw w B e v xs) {B' : Nat} {vx : Value} {news : List Value} (hx : Rw w B' e vx news) (h1 : ∀ u ∈ news, u.oneCell' = true)
    (hbd : xs.length + news.length ≤ 1048576) (hby : bytes ≤ 1024) (hB : B ≤ w.heap.size) :
    ∃ v' w', (Builtin.append_ #[t, t] ty #[v, vx]).run Try.prog w = .ok v' w' ∧ Rw w' B e v' (xs ++ news) ∧ w.grownBy w' v.ownBlock ∧ (v'.ownBlock = v.ownBlock ∨ ∃ k, v'.ownBlock = some k ∧ w.heap.size ≤ k) := by
  obtain ⟨i0, hi, hz0, hz1, hz2⟩ := info_parts T.info
  have hzs := T.zs
  subst hz2
  have hbb : (xs.length + news.length) * i0.bytes ≤ 140737488355328 := by
    have := Nat.mul_le_mul hbd hby
    omega
  -- the source
  have hsrc : ∃ m, Src Try.prog i0.size t vx m news w ∧ m = news.length := by
    rcases hx with ⟨rfl, rfl⟩ | ⟨g, off, cap, cur, rfl, hb, hh, hn, hm, hs, ht⟩
    · exact ⟨0, Src.ofNil w T.und 0, rfl⟩
    · refine ⟨news.length, Src.ofSlice w T.und ⟨g, off, none⟩ news.length cap news (by rw [hz1, Nat.mul_one]) (fun j u hu => ?_) h1, rfl⟩
      rw [Addr.add_lit]
      exact Rw.cells (B := B') (n := news.length) (c := cap) (.inr ⟨g, off, cap, cur, rfl, hb, hh, hn, hm, hs, ht⟩) j u hu
  obtain ⟨m, hsrc, rfl⟩ := hsrc
  have grow : ∀ (a : Option Addr) (n c : Nat), n = xs.length → v = .slice a n c → c < n + news.length → (Builtin.firstCells i0.size n (.slice a n c)).run Try.prog w.drew = .ok xs.toArray w.drew →
      ∃ v' w', (Builtin.append_ #[t, t] ty #[v, vx]).run Try.prog w = .ok v' w' ∧ Rw w' B e v' (xs ++ news) ∧ w.grownBy w' v.ownBlock ∧ (v'.ownBlock = v.ownBlock ∨ ∃ k, v'.ownBlock = some k ∧ w.heap.size ≤ k) := by
    intro a n c hn hv hc hold
    subst hn
    subst hv
    have hr := run_append_grow_src (P := Try.prog) w t t ty e i0 z T.und hi hz0 a xs.length c xs hold vx news.length news hsrc hc (by omega) (growslice_fits hc hbb)
    have hge := grownCap_ge w (xs.length + news.length) c e
    have hcm : grownCap w (xs.length + news.length) c e ≤ maxLen := grownCap_le_maxLen w (xs.length + news.length) c e (by unfold maxLen; omega)
    refine ⟨_, _, hr, .inr ⟨w.heap.size, 0, _, _, by rw [List.length_append], hB, heap_alloc_new w.drew _, by rw [List.length_append]; exact hge, hcm, ?_, ?_⟩, ⟨rfl, rfl, rfl, by simp, fun k hk _ => heap_alloc_old w.drew _ hk⟩, .inr ⟨w.heap.size, rfl, Nat.le_refl _⟩⟩
    · simp only [Array.size_append, List.size_toArray, size_zeroCells, hzs, Nat.mul_one, Nat.zero_add, List.length_append]
      omega
    · simp only [Array.toList_append, List.drop_zero]
      exact List.take_left
  rcases ho with ⟨h2, rfl⟩ | ⟨g', off, cap, cur, h2, hb, hh, hn, hm, hs, ht⟩
  · by_cases hnz : news = []
    · subst hnz
      subst h2
      refine ⟨.slice none 0 0, w, ?_, .inl ⟨rfl, rfl⟩, World.grownBy.refl _ _, .inl rfl⟩
      rcases hx with ⟨rfl, _⟩ | ⟨g, off, cap, cur, rfl, _⟩
      · simp [Builtin.append_, run_underlying T.und, sizeOf, typeInfo, hi, Builtin.lenOf, Builtin.firstCells, storeCells, loadCells, loadCellsFrom]
      · simp [Builtin.append_, run_underlying T.und, sizeOf, typeInfo, hi, Builtin.lenOf, Builtin.firstCells, storeCells, loadCells, loadCellsFrom]
    · have : 0 < news.length := List.length_pos_iff.2 hnz
      exact grow none 0 0 rfl h2 (by omega) (run_firstCells_none (P := Try.prog) w.drew _ 0 0 0)
  · by_cases hroom : xs.length + news.length ≤ cap
    · have hfit : off + xs.length + news.length ≤ cur.size := by omega
      subst h2
      rcases hx with ⟨rfl, rfl⟩ | ⟨g, off2, cap2, cur2, rfl, hb2, hh2, hn2, hm2, hs2, ht2⟩
      · refine ⟨_, w, ?_, .inr ⟨g', off, cap, cur, by simp, hb, hh, by simpa using hn, hm, hs, by simpa using ht⟩, World.grownBy.refl _ _, .inl rfl⟩
        have hroom' : xs.length ≤ cap := hn
        simp [Builtin.append_, run_underlying T.und, sizeOf, typeInfo, hi, Builtin.lenOf, Builtin.firstCells, storeCells, hroom']
      · have hr := append_room_off (P := Try.prog) w t ty e i0 T.und hi hz1 g' off xs.length cap cur hh ⟨g, off2, none⟩ news.length cap2 news rfl (fun j u hu => by
          rw [Addr.add_lit]
          exact Rw.cells (B := B') (n := news.length) (c := cap2) (.inr ⟨g, off2, cap2, cur2, rfl, hb2, hh2, hn2, hm2, hs2, ht2⟩) j u hu) h1 hroom hfit
        refine ⟨_, _, hr, .inr ⟨g', off, cap, _, by rw [List.length_append], hb, setRow_heap w g' cur _ e _ hh, by rw [List.length_append]; exact hroom, hm, ?_, ?_⟩, grown_setRow w g' _, .inl rfl⟩
        · simp only [List.size_toArray, List.length_append, List.length_take, List.length_drop, Array.length_toList]
          omega
        · simp only [List.append_assoc]
          rw [List.drop_append_of_le_length (by simp only [List.length_take, Array.length_toList]; omega), List.drop_take, show off + xs.length - off = xs.length by omega, ht, ← List.append_assoc, List.length_append, ← List.length_append]
          exact List.take_left
    · refine grow (some ⟨g', off, none⟩) xs.length cap rfl h2 (by omega) ?_
      refine run_firstCells_some (P := Try.prog) w.drew i0.size xs.length ⟨g', off, none⟩ xs.length cap xs (by rw [hz1, Nat.mul_one]) (fun j u hu => ?_)
      rw [Addr.add_lit]
      have := Rw.cells (w := w) (B := B) (e := e) (n := xs.length) (c := cap) (.inr ⟨g', off, cap, cur, rfl, hb, hh, hn, hm, hs, ht⟩) j u hu
      exact this
end Go.Proofs.Ytknllmcpogoeoaa
