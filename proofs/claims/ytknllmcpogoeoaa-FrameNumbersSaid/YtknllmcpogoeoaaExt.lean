/- 'Ext w0 w': nothing that was there in w0 has turned. Slices of byte slices; byte slices that stay the call's own while others grow. -/
import Derived.Test.YtknllmcpogoeoaaBase
namespace Go.Proofs.Ytknllmcpogoeoaa
open Go.RowKit
set_option linter.unusedVariables false
set_option linter.unusedSimpArgs false

/-- nothing that was there in w0 has turned -/
abbrev Ext (w0 w : World) : Prop := Below w0.heap.size w0 w
theorem Ext.refl (w : World) : Ext w w := Below.refl _ w
theorem Ext.sz {w0 w : World} (h : Ext w0 w) : w0.heap.size ≤ w.heap.size := h.size
theorem Ext.al {w0 w : World} (h : Ext w0 w) (o : Obj) : Ext w0 (w.alloc o) := Below.alloc h h.size o
theorem Ext.dr {w0 w : World} (h : Ext w0 w) : Ext w0 w.drew := Below.drew h
theorem Ext.drN {w0 w : World} (h : Ext w0 w) (n : Nat) : Ext w0 (w.drewN n) := below_drewN h n
theorem Ext.tr {a b c : World} (h : Ext a b) (k : Ext b c) : Ext a c := Below.trans h (k.mono h.size)
theorem Ext.grown {w0 w w' : World} {row : Option Nat} (h : Ext w0 w) (hg : w.grownBy w' row) (hr : ∀ k, row = some k → w0.heap.size ≤ k) : Ext w0 w' := Below.grown h hg h.size hr
theorem Ext.app {w0 w w' : World} {B : Nat} {e s n : Nat} {v : Value} {xs : List Value} (h : Ext w0 w) (ho : w.ownsRow B e s v n xs) (hB : w0.heap.size ≤ B) (hg : w.grownBy w' v.ownBlock) : Ext w0 w' :=
  h.grown hg (fun k hk => Nat.le_trans hB (World.ownsRow.lt ho k hk).1)
theorem Ext.cell {w0 w : World} (h : Ext w0 w) {b o : Nat} {v : Value} (hc : w0.cell? ⟨b, o, none⟩ = some v) : w.cell? ⟨b, o, none⟩ = some v :=
  (Below.cell h (p := ⟨b, o, none⟩) (World.block_lt_of_cell? w0 _ hc)).trans hc
theorem Ext.froz {w0 w : World} (h : Ext w0 w) {b o : Nat} (hb : b < w0.heap.size) : w.frozen? ⟨b, o, none⟩ = w0.frozen? ⟨b, o, none⟩ := Below.frozen h (p := ⟨b, o, none⟩) hb
theorem Ext.heap {w0 w : World} (h : Ext w0 w) {b : Nat} {o : Obj} (hb : w0.heap[b]? = some o) : w.heap[b]? = some o := by
  have hl : b < w0.heap.size := by
    rcases Nat.lt_or_ge b w0.heap.size with h | h
    · exact h
    · simp [Array.getElem?_eq_none h] at hb
  exact (h.block b hl).trans hb
theorem Ext.bs {w0 w : World} (h : Ext w0 w) {a : Option Addr} {len : Nat} {l : List UInt8} (hb : Bs w0 a len l) : Bs w a len l := hb.below h (Nat.le_refl _)
/-- an owned row that was there lies on -/
theorem Ext.row {w0 w : World} (h : Ext w0 w) {B e s n : Nat} {v : Value} {xs : List Value} (ho : w0.ownsRow B e s v n xs) : w.ownsRow B e s v n xs := by
  refine ⟨ho.1, ?_⟩
  rcases ho.2 with h1 | ⟨g, cap, cur, e1, hg, hh, r⟩
  · exact .inl h1
  · exact .inr ⟨g, cap, cur, e1, hg, Ext.heap h hh, r⟩
theorem row_al {w : World} {B e s n : Nat} {v : Value} {xs : List Value} (ho : w.ownsRow B e s v n xs) (o : Obj) : (w.alloc o).ownsRow B e s v n xs := ho.alloc o
theorem row_mono {w : World} {B B' e s n : Nat} {v : Value} {xs : List Value} (ho : w.ownsRow B e s v n xs) (hB : B' ≤ B) : w.ownsRow B' e s v n xs := by
  refine ⟨ho.1, ?_⟩
  rcases ho.2 with h1 | ⟨g, cap, cur, e1, hg, r⟩
  · exact .inl h1
  · exact .inr ⟨g, cap, cur, e1, by omega, r⟩
/-- two owned rows of different element types do not share a block -/
theorem row_ne {w : World} {B B' e e' s s' n n' : Nat} {v v' : Value} {xs xs' : List Value} (ho : w.ownsRow B e s v n xs) (ho' : w.ownsRow B' e' s' v' n' xs') (hne : e ≠ e') :
    v.ownBlock = none ∨ v.ownBlock ≠ v'.ownBlock := by
  rcases ho.2 with ⟨h1, _⟩ | ⟨g, cap, cur, e1, hg, hh, r⟩
  · left; rw [h1]; rfl
  · right
    rcases ho'.2 with ⟨h2, _⟩ | ⟨g', cap', cur', e2, hg', hh', r'⟩
    · rw [e1, h2]; simp [Value.ownBlock]
    · rw [e1, e2]
      simp only [Value.ownBlock, ne_eq, Option.some.injEq]
      intro eg
      subst eg
      rw [hh] at hh'
      simp only [Option.some.injEq, Obj.cells.injEq] at hh'
      exact hne hh'.2.1
/-- an owned row lies on while a row of another element type grows -/
theorem row_past {w w' : World} {B B' e e' s s' n n' : Nat} {v v' : Value} {xs xs' : List Value} (ho : w.ownsRow B e s v n xs) (ho' : w.ownsRow B' e' s' v' n' xs') (hne : e ≠ e') (hg : w.grownBy w' v'.ownBlock) : w'.ownsRow B e s v n xs :=
  ho.kept hg (row_ne ho ho' hne)

/-- a good byte slice value -/
def Sl (w : World) (v : Value) (l : List UInt8) : Prop := ∃ a n c, v = .slice a n c ∧ Bs w a n l ∧ n ≤ c ∧ (a = none → c = 0) ∧ n ≤ 140737488351232
theorem Sl.ext {w0 w : World} {v : Value} {l : List UInt8} (h : Sl w0 v l) (e : Ext w0 w) : Sl w v l := by
  obtain ⟨a, n, c, rfl, hb, r⟩ := h
  exact ⟨a, n, c, rfl, e.bs hb, r⟩
theorem Sl.nil (w : World) : Sl w (.slice none 0 0) [] := ⟨none, 0, 0, rfl, Bs.nil w none, Nat.le_refl _, fun _ => rfl, by omega⟩
theorem Ow.cap {w : World} {B : Nat} {a : Option Addr} {len cap : Nat} {l : List UInt8} (h : Ow w B a len cap l) : len ≤ cap ∧ (a = none → cap = 0) := by
  rcases h.2 with ⟨e, h0⟩ | ⟨g, cap', cur, e, hg, hh, hn, r⟩
  · simp only [Value.slice.injEq] at e
    exact ⟨by omega, fun _ => e.2.2⟩
  · simp only [Value.slice.injEq] at e
    exact ⟨by omega, fun h => by rw [h] at e; cases e.1⟩
theorem Ow.sl {w : World} {B : Nat} {a : Option Addr} {len cap : Nat} {l : List UInt8} (h : Ow w B a len cap l) (hn : len ≤ 140737488351232) : Sl w (.slice a len cap) l :=
  ⟨a, len, cap, rfl, h.bs, h.cap.1, h.cap.2, hn⟩

/-- the slice at a with len elements reads as the byte strings ls -/
structure Ls (w : World) (a : Option Addr) (len : Nat) (ls : List (List UInt8)) : Prop where
  leng : ls.length = len
  cell : ∀ k, k < len → ∃ b off v, a = some ⟨b, off, none⟩ ∧ w.cell? ⟨b, off + k, none⟩ = some v ∧ Sl w v (ls[k]?.getD [])
theorem Ls.at {w : World} {a : Option Addr} {len : Nat} {ls : List (List UInt8)} (h : Ls w a len ls) (k : Nat) (hk : k < len) :
    ∃ b off a' n c, a = some ⟨b, off, none⟩ ∧ w.cell? ⟨b, off + k, none⟩ = some (.slice a' n c) ∧ Bs w a' n (ls[k]?.getD []) ∧ n ≤ c ∧ (a' = none → c = 0) ∧ n ≤ 140737488351232 := by
  obtain ⟨b, off, v, e, hc, a', n, c, rfl, r⟩ := h.cell k hk
  exact ⟨b, off, a', n, c, e, hc, r⟩
theorem Ext.ls {w0 w : World} (h : Ext w0 w) {a : Option Addr} {len : Nat} {ls : List (List UInt8)} (hl : Ls w0 a len ls) : Ls w a len ls :=
  ⟨hl.leng, fun k hk => by
    obtain ⟨b, off, v, e, hc, hs⟩ := hl.cell k hk
    exact ⟨b, off, v, e, Ext.cell h hc, hs.ext h⟩⟩
theorem Ls.drew {w : World} {a : Option Addr} {len : Nat} {ls : List (List UInt8)} (hl : Ls w a len ls) : Ls w.drew a len ls := (Ext.refl w).dr.ls hl

/-! An owned slice of any element type, grown by one append. -/
structure ElemT (t e size bytes : Nat) (z : Value) : Prop where
  und : Try.prog.underlying t = some (.slice e)
  info : (Try.prog.info? e).map (fun i => (i.zero, i.size, i.bytes)) = some (some z, size, bytes)
  zs : z.cells.size = size
  pos : 0 < size
section
variable {ops : Array Oper} {rest : List Oper} {act : Act} {w : World} {Q : Exit → Act → World → Prop}
theorem run_appE {t e size bytes : Nat} {z : Value} (T : ElemT t e size bytes z) (w : World) (ty : TypeId) (B : Nat) (a : Option Addr) (n c : Nat) (xs : List Value) (g m cx : Nat) (news : List Value)
    (ho : w.ownsRow B e size (.slice a n c) n xs) (hl : news.length = m * size) (hnews : ∀ j u, news[j]? = some u → w.cell? ⟨g, j, none⟩ = some u) (h1 : ∀ u ∈ news, u.oneCell' = true)
    (hbd : n + m ≤ 9223372036854775807) (hby : (n + m) * bytes ≤ 140737488355328) (hB : B ≤ w.heap.size) (hm : 0 < m) :
    ∃ g' c' w', (Builtin.append_ #[t, t] ty #[.slice a n c, .slice (some ⟨g, 0, none⟩) m cx]).run Try.prog w = .ok (.slice (some ⟨g', 0, none⟩) (n + m) c') w' ∧ w'.ownsRow B e size (.slice (some ⟨g', 0, none⟩) (n + m) c') (n + m) (xs ++ news) ∧
      w.grownBy w' (Value.slice a n c).ownBlock := by
  obtain ⟨i0, hi, hz0, hz1, hz2⟩ := info_parts T.info
  obtain ⟨v', w', hr, h2, h3, h4⟩ := run_append_own (P := Try.prog) w B t ty e i0 z size bytes T.und hi hz0 hz1 hz2 T.zs T.pos (.slice a n c) n xs ho ⟨g, 0, none⟩ m cx news hl
    (fun j u hu => by rw [Addr.add_lit, Nat.zero_add]; exact hnews j u hu) h1 (by unfold maxLen; omega) hby hB
  rcases h2.2 with ⟨rfl, h0⟩ | ⟨g', c', cur, rfl, r⟩
  · omega
  · exact ⟨g', c', w', hr, h2, h3⟩
/-- append(s, x) of elements that lie in a block, in the walk -/
theorem wp_appE {t e size bytes : Nat} {z : Value} (T : ElemT t e size bytes z) {dst : Option Tmp} {s x : Operand} {ty : TypeId} {pos : String} {af : Array Edge}
    (B : Nat) {a : Option Addr} {n c g m cx : Nat} {xs : List Value} (news : List Value)
    (N : Nat) (hs : act.eval s = .slice a n c) (hx : act.eval x = .slice (some ⟨g, 0, none⟩) m cx)
    (ho : w.ownsRow B e size (.slice a n c) n xs) (hl : news.length = m * size) (hnews : ∀ j u, news[j]? = some u → w.cell? ⟨g, j, none⟩ = some u) (h1 : ∀ u ∈ news, u.oneCell' = true)
    (hN : N = n + m) (hbd : N ≤ 9223372036854775807) (hby : N * bytes ≤ 140737488355328) (hB : B ≤ w.heap.size) (hm : 0 < m)
    (hK : ∀ g' c' w', w'.ownsRow B e size (.slice (some ⟨g', 0, none⟩) N c') N (xs ++ news) → w.grownBy w' (Value.slice a n c).ownBlock → wpList Try.prog ops Q rest (act.put dst (.slice (some ⟨g', 0, none⟩) N c')) w') :
    wpList Try.prog ops Q (⟨dst, .call { callee := .builtin .append, args := #[s, x], argTypes := #[t, t] }, ty, pos, af, none⟩ :: rest) act w := by
  subst hN
  refine wpList_plain rfl fun K hK' => ?_
  obtain ⟨g', c', w', hr, h2, h3⟩ := run_appE T w ty B a n c xs g m cx news ho hl hnews h1 hbd hby hB hm
  unfold Oper.wp
  simp only [execOp, resolve, invoke, builtin, Sem.run_bind, Sem.run_pure, Result.andThen_ok, List.map_toArray, List.map_cons, List.map_nil, hs, hx, hr]
  exact hK' _ _ (hK g' c' w' h2 h3)
theorem step_appE {t e size bytes : Nat} {z : Value} (T : ElemT t e size bytes z) {o : Oper} {K : Act → World → Prop} {E : Prop} (hg : o.guard = none) (s x : Operand)
    (hop : o.op = .call { callee := .builtin .append, args := #[s, x], argTypes := #[t, t] })
    (B : Nat) {a : Option Addr} {n c g m cx : Nat} {xs : List Value} (news : List Value)
    (N : Nat) (hs : act.eval s = .slice a n c) (hx : act.eval x = .slice (some ⟨g, 0, none⟩) m cx)
    (ho : w.ownsRow B e size (.slice a n c) n xs) (hl : news.length = m * size) (hnews : ∀ j u, news[j]? = some u → w.cell? ⟨g, j, none⟩ = some u) (h1 : ∀ u ∈ news, u.oneCell' = true)
    (hN : N = n + m) (hbd : N ≤ 9223372036854775807) (hby : N * bytes ≤ 140737488355328) (hB : B ≤ w.heap.size) (hm : 0 < m)
    (hK : ∀ g' c' w', w'.ownsRow B e size (.slice (some ⟨g', 0, none⟩) N c') N (xs ++ news) → w.grownBy w' (Value.slice a n c).ownBlock → K (act.put o.dst (.slice (some ⟨g', 0, none⟩) N c')) w') :
    if Region.wanted o (yielded ops act.tmps) = true then Oper.wp Try.prog o act w K Q else E := by
  subst hN
  rw [if_pos (by simp [Region.wanted, hg])]
  obtain ⟨g', c', w', hr, h2, h3⟩ := run_appE T w o.type B a n c xs g m cx news ho hl hnews h1 hbd hby hB hm
  unfold Oper.wp
  simp only [execOp, hop, resolve, invoke, builtin, Sem.run_bind, Sem.run_pure, Result.andThen_ok, List.map_toArray, List.map_cons, List.map_nil, hs, hx, hr]
  exact hK g' c' w' h2 h3
end
/-- the cells of a new block, for the laws above -/
theorem news_new (w : World) (cs : List Value) (t : TypeId) : ∀ j u, cs[j]? = some u → (w.alloc (.cells cs.toArray t)).cell? ⟨w.heap.size, j, none⟩ = some u := by
  intro j u h
  rw [World.cell?_alloc_at _ _ _ _ rfl]
  simpa using h
theorem news_at (w : World) (g : Nat) (hg : g = w.heap.size) (cs : List Value) (t : TypeId) : ∀ j u, cs[j]? = some u → (w.alloc (.cells cs.toArray t)).cell? ⟨g, j, none⟩ = some u := by
  subst hg; exact news_new w cs t
theorem Bs.atNew (w : World) (g : Nat) (hg : g = w.heap.size) (cs : Array Value) (n : Nat) (l : List UInt8) (hl : l.length = n) (h : cs.toList = u8s l) : Bs (w.alloc (.cells cs 5)) (some ⟨g, 0, none⟩) n l := by
  subst hg; exact Bs.new w cs n l hl h
theorem Ow.atNew (w : World) (g : Nat) (hg : g = w.heap.size) (cs : Array Value) (B n : Nat) (l : List UInt8) (hl : l.length = n) (h : cs.toList = u8s l) (hB : B ≤ w.heap.size) (hn : n ≤ 140737488355328) : Ow (w.alloc (.cells cs 5)) B (some ⟨g, 0, none⟩) n n l := by
  subst hg; exact Ow.new w cs B n l hl h hB hn
theorem Ow.zero (w : World) (g : Nat) (hg : g = w.heap.size) (B : Nat) (hB : B ≤ w.heap.size) : Ow (w.alloc (.cells #[] 5)) B (some ⟨g, 0, none⟩) 0 0 [] := Ow.atNew w g hg #[] B 0 [] rfl rfl hB (by omega)
/-- what lies below an owned row's base lies on while that row grows -/
theorem Bs.keptB {w w' : World} {b off len B e s n : Nat} {l : List UInt8} {v : Value} {xs : List Value} (h : Bs w (some ⟨b, off, none⟩) len l) (ho : w.ownsRow B e s v n xs) (hg : w.grownBy w' v.ownBlock) (hb : b < B) : Bs w' (some ⟨b, off, none⟩) len l :=
  h.kept hg (fun b' off' e hr => by
    simp only [Option.some.injEq, Addr.mk.injEq] at e
    have := (World.ownsRow.lt ho b' hr.symm).1
    omega)
theorem cell_keptB {w w' : World} {b off B e s n : Nat} {u : Value} {v : Value} {xs : List Value} (h : w.cell? ⟨b, off, none⟩ = some u) (ho : w.ownsRow B e s v n xs) (hg : w.grownBy w' v.ownBlock) (hb : b < B) : w'.cell? ⟨b, off, none⟩ = some u :=
  hg.cell (a := ⟨b, off, none⟩) h (fun hr => by
    have := (World.ownsRow.lt ho b hr.symm).1
    omega)
theorem Bs.one {w : World} {b off len : Nat} {l : List UInt8} (h : Bs w (some ⟨b, off, none⟩) len l) (k : Nat) (hk : k < len) : w.cell? ⟨b, off + k, none⟩ = some (.int .u8 (nb l k)) := by
  obtain ⟨b', off', e, hc⟩ := h.cell k hk
  simp only [Option.some.injEq, Addr.mk.injEq] at e
  rw [← e.1, ← e.2.1] at hc
  exact hc
theorem el30 : ElemT 30 36 4 48 (.agg #[.int .i64 0, .int .i64 0, .slice none 0 0, .bool false]) := ⟨Try.underlying30, by kernel_rfl, rfl, by decide⟩
theorem el32 : ElemT 32 173 4 48 (.agg #[.int .i64 0, .int .i64 0, .slice none 0 0, .bool false]) := ⟨Try.underlying32, by kernel_rfl, rfl, by decide⟩
theorem el37 : ElemT 37 22 1 24 (.slice none 0 0) := ⟨Try.underlying37, by kernel_rfl, rfl, by decide⟩
end Go.Proofs.Ytknllmcpogoeoaa
