/- Any records put into a ring and into the reference's; a map of records. -/
import Derived.Test.YtknllmcpogoeoaaR23
import Derived.Maps.OwnSet
import Derived.Maps.Views
namespace Go.Proofs.Ytknllmcpogoeoaa
open Go.RowKit
set_option linter.unusedVariables false
set_option linter.unusedSimpArgs false
set_option maxRecDepth 100000
theorem code_cases {r : Rg} {x : Rcd} (hg : x.good = true) (h3 : x.what ≠ 3) : (r.code x = 0 ∧ (r.begun = true → x.era = r.era ∧ x.idx = r.next)) ∨ (r.code x = 11 ∧ r.begun = true ∧ (x.era ≠ r.era ∨ (x.era = r.era ∧ x.idx ≠ r.next))) := by
  unfold Rg.code
  rw [if_neg (by rw [hg]; simp [h3])]
  by_cases h : r.begun = true ∧ (x.era ≠ r.era ∨ x.idx ≠ r.next)
  · rw [if_pos h]
    refine .inr ⟨rfl, h.1, ?_⟩
    by_cases he : x.era = r.era
    · exact .inr ⟨he, h.2.resolve_left (by simp [he])⟩
    · exact .inl he
  · rw [if_neg h]
    refine .inl ⟨rfl, fun hb => ?_⟩
    refine ⟨?_, ?_⟩
    · exact Classical.byContradiction fun e => h ⟨hb, .inl e⟩
    · exact Classical.byContradiction fun e => h ⟨hb, .inr e⟩
theorem put_err_of {r : Rg} {x : Rcd} (h : r.code x = 11) : r.put x = (r, 0, 11) := by unfold Rg.put; rw [if_neg (by omega), h]
/-- a put, whatever its error -/
theorem put_all (B g : Nat) (v : Value) (ps : List (Rcd × Value)) (r : Rg) (x : Rcd) (w0 : World) (R0 : Rn w0 B g v ps r) (hx : x.ok) (ua : Option Addr) (un uc : Nat) (hz : Zw w0 0 (.slice ua un uc) x.ev.args) (hg : x.good = true) (h3 : x.what ≠ 3) (hn : ps.length ≤ 1000000) (hB : B ≤ w0.heap.size) :
    Calls Try.prog 68 #[.pointer (some ⟨g, 0, none⟩), .agg (x.cells (.slice ua un uc)).toArray] w0 (RPutPost w0 B g v r x) := by
  rcases code_cases (r := r) hg h3 with ⟨_, hb⟩ | ⟨hc, hb, he | ⟨he, hi⟩⟩
  · exact put_ok B g v ps r x w0 R0 hx ua un uc hz hg h3 hb hn hB
  · refine (put_era B g v ps r x w0 R0 hx ua un uc hz.zl hg h3 hb he).mono ?_
    rintro e w' ⟨rfl, E⟩
    unfold RPutPost
    rw [put_err_of hc]
    exact ⟨v, ps, rfl, R0.ext E, E.frm, .inr (.inl rfl)⟩
  · refine (put_idx B g v ps r x w0 R0 hx ua un uc hz.zl hg h3 hb he hi).mono ?_
    rintro e w' ⟨rfl, E⟩
    unfold RPutPost
    rw [put_err_of hc]
    exact ⟨v, ps, rfl, R0.ext E, E.frm, .inr (.inl rfl)⟩
theorem refPut_all (r : Rg) (B : Nat) (va : Option Addr) (n c : Nat) (x : Rcd) (w0 : World) (hit : It w0 B (.slice va n c) (r.list.map toldOf)) (hrl : r.list.length = n) (hx : x.ok) (hg : x.good = true) (h3 : x.what ≠ 3) (hus : r.used = sizes r.list) (hw16 : ∀ y ∈ r.list ++ [x], y.words.length = 16) (hn : n ≤ 100000) (hc1 : 1 ≤ r.cap) (hB : B ≤ w0.heap.size) :
    Calls Try.prog 91 #[.agg (rfCells r (.slice va n c)).toArray, .agg (toldOf x).cells.toArray] w0 fun e w' => ∃ a' c', e = .returned (.tuple #[.agg (rfCells (r.put x).1 (.slice a' (r.put x).1.list.length c')).toArray, .int .i64 (((r.put x).2.1 : Nat) : Int), .int .i64 (((r.put x).2.2 : Nat) : Int)]) ∧ It w' B (.slice a' (r.put x).1.list.length c') ((r.put x).1.list.map toldOf) ∧ Ext w0 w' := by
  rcases code_cases (r := r) hg h3 with ⟨_, hb⟩ | ⟨hc, hb, he | ⟨he, hi⟩⟩
  · refine (refPut_ok r B va n c x w0 hit hrl hx hg h3 hb hus hw16 hn hc1).mono ?_
    rintro e w' ⟨a', c', h1, h2, h4⟩
    exact ⟨a', c', h1, Sr.mono h2 hB, h4⟩
  · refine (refPut_era r B va n c x w0 hb he).mono ?_
    rintro e w' ⟨rfl, E⟩
    rw [put_err_of hc]
    subst hrl
    exact ⟨va, c, rfl, hit.ext E, E⟩
  · refine (refPut_idx r B va n c x w0 hb he hi).mono ?_
    rintro e w' ⟨rfl, E⟩
    rw [put_err_of hc]
    subst hrl
    exact ⟨va, c, rfl, hit.ext E, E⟩
/-- what is known of a record of any play -/
structure Okr (x : Rcd) : Prop where
  good : x.good = true
  ok : x.ok
  what : x.what = 1 ∨ x.what = 2
  lost1 : x.what = 1 → x.lost = 0
  lost2 : x.what = 2 → 1 ≤ x.lost
  bound : x.idx + x.step < 9223372036854775808
theorem rec_okr (comp k nx : Nat) (s : RStep) (hc : comp < 8) (hk : k < 40) (hn : nx < 4611686018427387904) (hs : s.ok) : Okr (recOf comp k nx s) := by
  have hb := (base_fine comp k nx s hc hk (by omega) hs).1
  have he := base_era comp k nx s
  have hi := base_idx comp k nx s
  have hst := base_step50 comp k nx s
  have hlo : (baseOf comp k nx s).lost ≤ 50 := by have : (baseOf comp k nx s).lost ≤ (baseOf comp k nx s).step := Nat.le_max_left _ _; omega
  have h1 : Okr (skipOf s (baseOf comp k nx s)) := by
    unfold skipOf
    split
    · have hidx : ((baseOf comp k nx s).idx + 2) % 18446744073709551616 = nx + 2 := by rw [hi]; omega
      refine ⟨?_, ⟨hb.ok.era, by rw [hidx]; show nx + 2 < _; omega, hb.ok.words, hb.ok.w64, hb.ok.what, hb.ok.ev, hb.ok.lost⟩, hb.what, hb.lost1, hb.lost2, ?_⟩
      · have hg := hb.good
        unfold Rcd.good Rcd.good0 at hg ⊢
        simp only at hg ⊢
        rw [hidx]
        rcases hb.what with h | h
        · rw [if_pos h] at hg ⊢; exact hg
        · rw [if_neg (by omega), if_pos h] at hg ⊢
          simp only [Bool.and_eq_true, decide_eq_true_eq] at hg ⊢
          refine ⟨⟨hg.1.1, hg.1.2.1, by omega⟩, hg.2⟩
      · rw [hidx]
        show nx + 2 + (baseOf comp k nx s).step < _
        omega
    · exact ⟨hb.good, hb.ok, hb.what, hb.lost1, hb.lost2, by rw [hi]; omega⟩
  have he1 : (skipOf s (baseOf comp k nx s)).era = (comp : Int) := by rw [skip_era, he]
  have hok := rec_ok comp k nx s hc hk (by omega) hs
  unfold recOf at hok ⊢
  unfold otherOf at hok ⊢
  split at hok
  · rename_i ho
    rw [if_pos ho]
    refine ⟨?_, hok, h1.what, h1.lost1, h1.lost2, h1.bound⟩
    have hg := h1.good
    generalize skipOf s (baseOf comp k nx s) = y at *
    unfold Rcd.good Rcd.good0 at hg ⊢
    rcases h1.what with h | h
    · rw [if_pos h] at hg ⊢
      simp only [if_pos h]
      simp only [Bool.and_eq_true, decide_eq_true_eq, Evt.good, beq_iff_eq, inN, true_and] at hg ⊢
      omega
    · have h21 : ¬ y.what = 1 := by omega
      rw [if_neg h21, if_pos h] at hg ⊢
      simp only [if_neg h21]
      simp only [Bool.and_eq_true, decide_eq_true_eq, inN, Rcd.bare] at hg ⊢
      have hev := evt_eq hg.1.1.2
      refine ⟨⟨⟨hg.1.1.1, ?_⟩, hg.1.2⟩, by omega⟩
      rw [hev]
      exact evt_refl _
  · rename_i ho
    rw [if_neg ho]
    exact h1
theorem rows_okr (comp : Nat) (hc : comp < 8) : ∀ (l : List RStep) (k next : Nat), (∀ s ∈ l, s.ok) → k + l.length ≤ 40 → next + l.length * 52 < 4611686018427387904 → ∀ x ∈ recsFrom comp k next l, Okr x
  | [], k, next, _, _, _, x, hx => by simp [recsFrom] at hx
  | s :: r, k, next, hs, hk, hn, x, hx => by
    simp only [List.length_cons] at hk hn
    have hb := (behind_le [s] next).1
    simp only [List.foldl_cons, List.foldl_nil, List.length_cons, List.length_nil] at hb
    simp only [recsFrom, List.mem_cons] at hx
    rcases hx with rfl | hx
    · exact rec_okr comp k next s hc (by omega) (by omega) (hs s (List.mem_cons_self ..))
    · exact rows_okr comp hc r (k + 1) (behind next s) (fun y hy => hs y (List.mem_cons_of_mem _ hy)) (by omega) (by omega) x hx
theorem play_okr (comp first : Nat) (ss : List RStep) (hf : first ≤ 4294967295) (hok : ∀ s ∈ ss, s.ok) : ∀ x ∈ recordsOf comp first ss, Okr x := by
  unfold recordsOf
  have hl : (ss.take 40).length ≤ 40 := by rw [List.length_take]; omega
  exact rows_okr (comp % 8) (Nat.mod_lt _ (by omega)) _ 0 first (fun s hs => hok s (List.mem_of_mem_take hs)) (by omega) (by omega)
theorem play_len (comp first : Nat) (ss : List RStep) : (recordsOf comp first ss).length ≤ 40 := by
  unfold recordsOf
  rw [recsFrom_len, List.length_take]
  omega
/-- what is known of a ring whatever was put -/
structure Lv (r : Rg) : Prop where
  nb : r.begun = false → r.list = [] ∧ r.next = 0 ∧ r.first = 0
  ch : r.begun = true → ∃ n0, chain n0 r.list r.next ∧ r.next < 9223372036854775808
  used : r.used = sizes r.list
  stops : stopsR r.cap r.list
theorem okr_next {x : Rcd} (h : Okr x) : nextOf x = x.idx + x.step := by
  have hb := h.bound
  unfold nextOf
  unfold Rcd.step at hb ⊢
  rcases h.what with h1 | h1
  · have := h.lost1 h1
    rw [if_neg (by omega), Nat.mod_eq_of_lt (by omega)]
    omega
  · have := h.lost2 h1
    rw [if_pos h1, Nat.mod_eq_of_lt (by omega)]
    omega
theorem lv_put {r : Rg} {x : Rcd} (L : Lv r) (h : Okr x) : Lv (r.put x).1 := by
  rcases code_cases (r := r) h.good (by rcases h.what with h | h <;> omega) with ⟨hc, hb⟩ | ⟨hc, _⟩
  · rw [(put_of hc).1]
    have hu : r.used + x.size = sizes (r.list ++ [x]) := by rw [sizes_app, L.used]
    refine ⟨fun h => by simp [Rg.add] at h, fun _ => ?_, ?_, ?_⟩
    · have hn : (r.add x).next = x.idx + x.step := okr_next h
      have hbd := h.bound
      rw [hn]
      have hch : ∃ n0, chain n0 (r.list ++ [x]) (x.idx + x.step) := by
        cases hbg : r.begun with
        | true =>
          obtain ⟨n0, h1, _⟩ := L.ch hbg
          refine ⟨n0, ?_⟩
          rw [(hb hbg).2]
          exact chain_app _ _ _ _ h1 (hb hbg).2
        | false =>
          rw [(L.nb hbg).1]
          exact ⟨x.idx, rfl, rfl⟩
      obtain ⟨n0, h1⟩ := hch
      obtain ⟨n1, _, _, h2⟩ := chain_drop _ _ _ (dropR r.cap (r.used + x.size) (r.list ++ [x])).1 h1
      exact ⟨n1, h2, by omega⟩
    · show (dropR _ _ _).2 = sizes ((r.list ++ [x]).drop _)
      rw [hu]
      have := dropR_used r.cap (r.list ++ [x]) 0
      simpa using this
    · show stopsR r.cap ((r.list ++ [x]).drop _)
      rw [hu]
      exact dropR_stops r.cap (r.list ++ [x])
  · rw [put_err_of hc]
    exact L
theorem lv_lost {r : Rg} (L : Lv r) (h : r.begun = false) : r.lost = 0 := by
  obtain ⟨h1, h2, h3⟩ := L.nb h
  unfold Rg.lost
  rw [h1, h2, h3]
theorem lv_used {r : Rg} (L : Lv r) (hc : 1 ≤ r.cap) : (r.used : Int) ≤ r.cap := by
  rw [L.used]
  rcases L.stops with h | h
  · rw [h]; simp [sizes]; omega
  · exact h.1
theorem chain_lt : ∀ (l : List Rcd) (n m : Nat), chain n l m → ∀ x ∈ l, x.idx < m
  | y :: r, n, m, h, x, hx => by
    have hle := chain_le h.2
    have hs : 1 ≤ y.step := Nat.le_max_right _ _
    rcases List.mem_cons.1 hx with rfl | hx
    · have := h.1; omega
    · exact chain_lt r _ m h.2 x hx
/-! A map of records: what is read of an element is the value itself. -/
def hld (v : Value) : Option (DataW Value × List MemPlace) := some (.held v, [])
def zrec : DataW Value := .held (.agg zero95.toArray)
theorem key56 (n : Nat) (h : n < 18446744073709551616) : keyOf Try.prog 56 (.int .u64 (n : Int)) = some (.int .u64 (n : Int)) := by
  unfold keyOf mapKey
  rw [Try.underlying56]
  simp [Lit.wf, IntKind.min, IntKind.max, IntKind.signed, IntKind.bits]
  omega
theorem K56 : Maps.Keyed Try.prog 56 := Maps.int_keyed Try.underlying56
theorem under136 : Try.prog.underlying 136 = some (.map 56 95) := by kernel_rfl
theorem map_look {w : World} {b n : Nat} {D : DataW Value} (h : w.ownsMap Try.prog 56 hld b n D) (k : Nat) (hk : k < 18446744073709551616) (v : Value) (hv : D.atKey (.int .u64 (k : Int)) zrec = .held v) : (Instr.lookup 136 (.map (some b)) (.int .u64 (k : Int)) false).run Try.prog w = .ok v w := by
  obtain ⟨u, ps, h1, h2⟩ := h.lookup K56 under136 (z95 w) (zd := zrec) (zp := []) rfl (key56 k hk)
  rw [hv] at h2
  unfold hld at h2
  simp only [Option.some.injEq, Prod.mk.injEq, DataW.held.injEq] at h2
  rw [h1, h2.1]
theorem map_heap {w w' : World} {b n : Nat} {D : DataW Value} (h : w.ownsMap Try.prog 56 hld b n D) (hk : w'.heap[b]? = w.heap[b]?) : w'.ownsMap Try.prog 56 hld b n D := by
  obtain ⟨es, clock, hb, r⟩ := h
  exact ⟨es, clock, hk.trans hb, r⟩
theorem map_ne {w : World} {b n g : Nat} {D : DataW Value} (h : w.ownsMap Try.prog 56 hld b n D) (hg : ∃ cur t f, w.heap[g]? = some (.cells cur t f)) : b ≠ g := by
  rintro rfl
  obtain ⟨es, clock, hb, _⟩ := h
  obtain ⟨cur, t, f, hc⟩ := hg
  rw [hb] at hc
  cases hc
theorem map_put {w : World} {b n : Nat} {D : DataW Value} (h : w.ownsMap Try.prog 56 hld b n D) (k : Nat) (hk : k < 18446744073709551616) (v : Value) (hn : n < 1000) : ∃ w', (Instr.mapUpdate 136 (.map (some b)) (.int .u64 (k : Int)) v).run Try.prog w = .ok () w' ∧ w'.ownsMap Try.prog 56 hld b (n + 1) (D.put (.int .u64 (k : Int)) (.held v)) ∧ w.grownBy w' (some b) :=
  h.update K56 under136 (by unfold maxLen; omega) (key56 k hk) (d := .held v) (ps := []) rfl
section
variable {P : Program} {a : Act} {N : Nat} {l : List (Nat × Value)} {w w' : World} {o : Oper} {v : Value}
theorem x_lookup (H : Has a N l) {t : TypeId} {x y : Operand} {b : Bool} {vx vy : Value} (ho : o.op = .lookup t x y b) (ex : ev l x = some vx) (ey : ev l y = some vy) (h : (Instr.lookup t vx vy b).run P w = .ok v w') : (execOp a.eval o).run P w = .ok (.value v) w' := by
  unfold execOp; rw [ho]; simp only [H.ev ex, H.ev ey, Sem.run_bind, Sem.run_pure, Result.andThen_ok, h]
theorem x_mapUpdate (H : Has a N l) {t : TypeId} {x y z : Operand} {vx vy vz : Value} (ho : o.op = .mapUpdate t x y z) (ex : ev l x = some vx) (ey : ev l y = some vy) (ez : ev l z = some vz) (h : (Instr.mapUpdate t vx vy vz).run P w = .ok () w') : (execOp a.eval o).run P w = .ok .skip w' := by
  unfold execOp; rw [ho]; simp only [H.ev ex, H.ev ey, H.ev ez, Sem.run_bind, Sem.run_pure, Result.andThen_ok, h]
theorem x_makeMap (H : Has a N l) {t : TypeId} (ho : o.op = .makeMap t none) (h : (Instr.makeMap t none).run P w = .ok v w') : (execOp a.eval o).run P w = .ok (.value v) w' := by
  unfold execOp; rw [ho]; simp only [Option.map_none, Sem.run_bind, Sem.run_pure, Result.andThen_ok, h]
end
theorem mk136 (w : World) : (Instr.makeMap 136 none).run Try.prog w = .ok (.map (some w.heap.size)) (w.alloc (.map #[] 0)) := by kernel_rfl
/-- every kept record lies in the map under its number -/
def Mp (r : Rg) (qs : List (Rcd × Value)) (D : DataW Value) : Prop := ∀ x ∈ r.list, ∃ u, (x, u) ∈ qs ∧ D.atKey (.int .u64 (x.idx : Int)) zrec = .held (.agg (x.cells u).toArray)
end Go.Proofs.Ytknllmcpogoeoaa
