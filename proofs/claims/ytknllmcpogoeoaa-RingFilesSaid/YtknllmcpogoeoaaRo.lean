/- Owned rows that begin anywhere in their block: an append, a cut. -/
import Derived.Test.YtknllmcpogoeoaaR7
import Derived.Deep.AppendSrc
namespace Go.Proofs.Ytknllmcpogoeoaa
open Go.RowKit
set_option linter.unusedVariables false
set_option linter.unusedSimpArgs false
set_option maxRecDepth 100000
/-- v is a slice of n elements in a block of the call's own; it may begin anywhere in it -/
def Sr (w : World) (B e size : Nat) (v : Value) (n : Nat) (xs : List Value) : Prop :=
  xs.length = n * size ∧ ((v = .slice none 0 0 ∧ n = 0) ∨
   ∃ g off cap cur, v = .slice (some ⟨g, off, none⟩) n cap ∧ B ≤ g ∧ w.heap[g]? = some (.cells cur e (0, 0)) ∧ n ≤ cap ∧ cap ≤ maxLen ∧ off + cap * size ≤ cur.size ∧ (cur.toList.drop off).take (n * size) = xs)
section
variable {w w' : World} {B e size n : Nat} {v : Value} {xs : List Value}
theorem Sr.of (h : w.ownsRow B e size v n xs) : Sr w B e size v n xs := by
  refine ⟨h.1, ?_⟩
  rcases h.2 with h1 | ⟨g, cap, cur, rfl, hb, hg, hn, hm, hs, ht⟩
  · exact .inl h1
  · exact .inr ⟨g, 0, cap, cur, rfl, hb, hg, hn, hm, by omega, by simpa using ht⟩
theorem Sr.nil (w : World) (B e size : Nat) : Sr w B e size (.slice none 0 0) 0 [] := ⟨by simp, .inl ⟨rfl, rfl⟩⟩
theorem Sr.shape (h : Sr w B e size v n xs) : ∃ a c, v = .slice a n c ∧ n ≤ c ∧ (a = none → n = 0 ∧ c = 0) := by
  rcases h.2 with ⟨rfl, rfl⟩ | ⟨g, off, cap, cur, rfl, _, _, hn, _⟩
  · exact ⟨none, 0, rfl, Nat.le_refl _, fun _ => ⟨rfl, rfl⟩⟩
  · exact ⟨_, cap, rfl, hn, fun h => by cases h⟩
theorem Sr.blk (h : Sr w B e size v n xs) : ∀ g, v.ownBlock = some g → B ≤ g ∧ g < w.heap.size ∧ ∃ cur, w.heap[g]? = some (.cells cur e (0, 0)) := by
  intro g hg
  rcases h.2 with ⟨rfl, _⟩ | ⟨g', off, cap, cur, rfl, hb, hh, _⟩
  · simp [Value.ownBlock] at hg
  · simp [Value.ownBlock] at hg
    subst hg
    refine ⟨hb, ?_, cur, hh⟩
    rcases Nat.lt_or_ge g' w.heap.size with hl | hl
    · exact hl
    · rw [Array.getElem?_eq_none hl] at hh; cases hh
theorem Sr.heap (h : Sr w B e size v n xs) (hk : ∀ g, v.ownBlock = some g → w'.heap[g]? = w.heap[g]?) : Sr w' B e size v n xs := by
  refine ⟨h.1, ?_⟩
  rcases h.2 with h1 | ⟨g, off, cap, cur, rfl, hb, hh, r⟩
  · exact .inl h1
  · exact .inr ⟨g, off, cap, cur, rfl, hb, (hk g rfl).trans hh, r⟩
theorem Sr.frm {s : List Nat} (h : Sr w B e size v n xs) (F : Frm s w w') (hs : ∀ g, v.ownBlock = some g → g ∉ s) : Sr w' B e size v n xs :=
  h.heap fun g hg => F.block g (h.blk g hg).2.1 (hs g hg)
theorem Sr.ext (h : Sr w B e size v n xs) (E : Ext w w') : Sr w' B e size v n xs := h.heap fun g hg => E.block g (h.blk g hg).2.1
theorem Sr.drew (h : Sr w B e size v n xs) : Sr w.drew B e size v n xs := h
theorem Sr.mono {B' : Nat} (h : Sr w B e size v n xs) (hB : B' ≤ B) : Sr w B' e size v n xs := by
  refine ⟨h.1, ?_⟩
  rcases h.2 with h1 | ⟨g, off, cap, cur, rfl, hb, r⟩
  · exact .inl h1
  · exact .inr ⟨g, off, cap, cur, rfl, by omega, r⟩
theorem Sr.cells {g off c : Nat} (h : Sr w B e size (.slice (some ⟨g, off, none⟩) n c) n xs) : ∀ j u, xs[j]? = some u → w.cell? ⟨g, off + j, none⟩ = some u := by
  intro j u hu
  rcases h.2 with ⟨h1, _⟩ | ⟨g', off', cap, cur, h1, hb, hh, hn, hm, hs, ht⟩
  · cases h1
  · simp only [Value.slice.injEq, Option.some.injEq, Addr.mk.injEq] at h1
    obtain ⟨⟨rfl, rfl, _⟩, _, rfl⟩ := h1
    rw [cell_of_row w _ _ cur e (0, 0) hh]
    rw [← ht, List.getElem?_take] at hu
    split at hu
    · rw [List.getElem?_drop] at hu
      simpa using hu
    · cases hu
/-- a part of the front is cut away -/
theorem Sr.cut {a : Option Addr} {c : Nat} (h : Sr w B e size (.slice a n c) n xs) (k : Nat) (hk : k ≤ n) : Sr w B e size (.slice (if c = k then a else a.map (·.add (k * size))) (n - k) (c - k)) (n - k) (xs.drop (k * size)) := by
  refine ⟨by rw [List.length_drop, h.1, Nat.sub_mul], ?_⟩
  rcases h.2 with ⟨h1, rfl⟩ | ⟨g, off, cap, cur, h1, hb, hh, hn, hm, hs, ht⟩
  · simp only [Value.slice.injEq] at h1
    obtain ⟨rfl, _, rfl⟩ := h1
    obtain rfl : k = 0 := by omega
    exact .inl ⟨by simp, rfl⟩
  · simp only [Value.slice.injEq] at h1
    obtain ⟨rfl, _, rfl⟩ := h1
    by_cases hc : c = k
    · rw [if_pos hc]
      obtain rfl : n = k := by omega
      refine .inr ⟨g, off, c - n, cur, by rw [Nat.sub_self], hb, hh, by omega, by omega, ?_, ?_⟩
      · rw [hc, Nat.sub_self, Nat.zero_mul]; omega
      · rw [Nat.sub_self, Nat.zero_mul, List.take_zero, ← h.1]; simp
    · rw [if_neg hc]
      refine .inr ⟨g, off + k * size, c - k, cur, by simp [Addr.add_lit], hb, hh, by omega, by omega, ?_, ?_⟩
      · have : k * size + (c - k) * size = c * size := by rw [← Nat.add_mul]; congr 1; omega
        omega
      · rw [← ht, List.drop_take, List.drop_drop, Nat.sub_mul]
end
/-- the size of a slice's elements does not matter to its length -/
theorem sl_loN {P : Program} {w : World} {t e s : Nat} {a : Option Addr} {n c lo : Nat} {q : IntKind} {i : Int} (hu : P.underlying t = some (.slice e)) (hs : ∀ w, (sizeOf e).run P w = .ok s w) (hi1 : i = (lo : Int)) (h1 : lo ≤ n) :
    (Instr.sliceAt t (.slice a n c) (some (.int q i)) none none).run P w = .ok (.slice (if c = lo then a else a.map (·.add (lo * s))) (n - lo) (c - lo)) w := by
  have he : P.elem t = e := by simp [Program.elem, hu]
  subst hi1
  rw [run_sliceAt_slice (P := P) w t _ _ _ _ (by rw [he]; exact hu), run_slice_l (P := P) w t a n c (by rw [he]; exact hu) q (lo : Int) (by omega) (by omega), he, hs]
  simp [sliced]
theorem run_append_room_off {P : Program} (w : World) (t ty e : TypeId) (i : TypeInfo) (ht : P.underlying t = some (.slice e)) (hi : P.info? e = some i)
    (g off sLen sCap : Nat) (cur : Array Value) (hg : w.heap[g]? = some (.cells cur e (0, 0)))
    (a : Addr) (m c : Nat) (news : List Value) (hl : news.length = m * i.size) (hnews : ∀ j u, news[j]? = some u → w.cell? (a.add j) = some u) (h1 : ∀ u ∈ news, u.oneCell' = true)
    (hroom : sLen + m ≤ sCap) (hfit : off + sLen * i.size + news.length ≤ cur.size) :
    (Builtin.append_ #[t, t] ty #[.slice (some ⟨g, off, none⟩) sLen sCap, .slice (some a) m c]).run P w =
      .ok (.slice (some ⟨g, off, none⟩) (sLen + m) sCap) (w.setRow g (cur.toList.take (off + sLen * i.size) ++ news ++ cur.toList.drop (off + sLen * i.size + news.length)).toArray) := by
  have hf := run_firstCells_some (P := P) w i.size m a m c news hl hnews
  have hst := run_storeCells_at P g (off + sLen * i.size) e news 0 cur w hg (by simpa using hfit) h1
  simp only [Nat.add_zero] at hst
  simp [Builtin.append_, run_underlying ht, sizeOf, typeInfo, hi, Builtin.lenOf, hroom, hf, Addr.add_lit, hst]
/-- one element more -/
theorem Sr.app {t e size bytes : Nat} {z : Value} (T : ElemT t e size bytes z) (w : World) (ty : TypeId) (B : Nat) (a : Option Addr) (n c : Nat) (xs : List Value) (g cx : Nat) (news : List Value)
    (ho : Sr w B e size (.slice a n c) n xs) (hl : news.length = size) (hnews : ∀ j u, news[j]? = some u → w.cell? ⟨g, j, none⟩ = some u) (h1 : ∀ u ∈ news, u.oneCell' = true)
    (hbd : n + 1 ≤ 9223372036854775807) (hby : (n + 1) * bytes ≤ 140737488355328) (hB : B ≤ w.heap.size) :
    ∃ g' off' c' w', (Builtin.append_ #[t, t] ty #[.slice a n c, .slice (some ⟨g, 0, none⟩) 1 cx]).run Try.prog w = .ok (.slice (some ⟨g', off', none⟩) (n + 1) c') w' ∧ Sr w' B e size (.slice (some ⟨g', off', none⟩) (n + 1) c') (n + 1) (xs ++ news) ∧
      w.grownBy w' (Value.slice a n c).ownBlock ∧ ((Value.slice a n c).ownBlock = some g' ∨ w.heap.size ≤ g') := by
  obtain ⟨i0, hi, hz0, hz1, hz2⟩ := info_parts T.info
  have hpos := T.pos
  have hzs := T.zs
  subst hz1
  subst hz2
  have hnews' : ∀ j u, news[j]? = some u → w.cell? ((⟨g, 0, none⟩ : Addr).add j) = some u := fun j u hu => by rw [Addr.add_lit, Nat.zero_add]; exact hnews j u hu
  have hl' : news.length = 1 * i0.size := by rw [hl, Nat.one_mul]
  have hsrc : Src Try.prog i0.size t (.slice (some ⟨g, 0, none⟩) 1 cx) 1 news w := Src.ofSlice w T.und ⟨g, 0, none⟩ 1 cx news hl' hnews' h1
  have hlen : (xs ++ news).length = (n + 1) * i0.size := by rw [List.length_append, ho.1, hl', Nat.add_mul]
  have grow : ∀ (row : Option Nat), c < n + 1 → (Builtin.firstCells i0.size n (.slice a n c)).run Try.prog w.drew = .ok xs.toArray w.drew →
      ∃ g' off' c' w', (Builtin.append_ #[t, t] ty #[.slice a n c, .slice (some ⟨g, 0, none⟩) 1 cx]).run Try.prog w = .ok (.slice (some ⟨g', off', none⟩) (n + 1) c') w' ∧ Sr w' B e i0.size (.slice (some ⟨g', off', none⟩) (n + 1) c') (n + 1) (xs ++ news) ∧
      w.grownBy w' row ∧ ((Value.slice a n c).ownBlock = some g' ∨ w.heap.size ≤ g') := by
    intro row hc hold
    have hr := run_append_grow_src (P := Try.prog) w t t ty e i0 z T.und hi hz0 a n c xs hold (.slice (some ⟨g, 0, none⟩) 1 cx) 1 news hsrc hc (by omega) (growslice_fits hc hby)
    have hge := grownCap_ge w (n + 1) c e
    have hcm : grownCap w (n + 1) c e ≤ maxLen := grownCap_le_maxLen w (n + 1) c e (by unfold maxLen; omega)
    refine ⟨w.heap.size, 0, _, _, hr, ⟨hlen, .inr ⟨w.heap.size, 0, _, _, rfl, hB, heap_alloc_new w.drew _, hge, hcm, ?_, ?_⟩⟩, ⟨rfl, rfl, rfl, by simp, fun k hk _ => heap_alloc_old w.drew _ hk⟩, .inr (Nat.le_refl _)⟩
    · simp only [Array.size_append, List.size_toArray, size_zeroCells, hzs, hlen, ← Nat.add_mul, Nat.zero_add]
      exact Nat.mul_le_mul_right _ (by omega)
    · simp only [Array.toList_append, List.drop_zero]
      rw [← hlen]
      exact List.take_left
  rcases ho.2 with ⟨h2, rfl⟩ | ⟨g', off, cap, cur, h2, hb, hh, hn, hm, hs, ht⟩
  · simp only [Value.slice.injEq] at h2
    obtain ⟨rfl, _, rfl⟩ := h2
    have hx : xs = [] := List.eq_nil_of_length_eq_zero (by simpa using ho.1)
    subst hx
    exact grow _ (by omega) (run_firstCells_none (P := Try.prog) w.drew _ 0 0 0)
  · simp only [Value.slice.injEq] at h2
    obtain ⟨rfl, _, rfl⟩ := h2
    by_cases hroom : n + 1 ≤ c
    · have hfit : off + n * i0.size + news.length ≤ cur.size := by
        have : (n + 1) * i0.size ≤ c * i0.size := Nat.mul_le_mul_right _ hroom
        rw [Nat.add_mul, Nat.one_mul] at this
        omega
      have hr := run_append_room_off (P := Try.prog) w t ty e i0 T.und hi g' off n c cur hh ⟨g, 0, none⟩ 1 cx news hl' hnews' h1 hroom hfit
      refine ⟨g', off, c, _, hr, ⟨hlen, .inr ⟨g', off, c, _, rfl, hb, setRow_heap w g' cur _ e _ hh, hroom, hm, ?_, ?_⟩⟩, grown_setRow w g' _, .inl rfl⟩
      · simp only [List.size_toArray, List.length_append, List.length_take, List.length_drop, Array.length_toList]
        omega
      · simp only [List.append_assoc]
        rw [List.drop_append_of_le_length (by simp only [List.length_take, Array.length_toList]; omega), List.drop_take, show off + n * i0.size - off = n * i0.size by omega, ht, ← List.append_assoc, ← hlen]
        exact List.take_left
    · refine grow _ (by omega) ?_
      refine run_firstCells_some (P := Try.prog) w.drew i0.size n ⟨g', off, none⟩ n c xs ho.1 (fun j u hu => ?_)
      rw [Addr.add_lit]
      exact (show Sr w.drew B e i0.size (.slice (some ⟨g', off, none⟩) n c) n xs from ho).cells j u hu
end Go.Proofs.Ytknllmcpogoeoaa
