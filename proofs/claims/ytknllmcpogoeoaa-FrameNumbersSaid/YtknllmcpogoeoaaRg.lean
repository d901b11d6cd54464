/- A region that draws its order, step by step: what only reads what was there may be taken first; a call that leaves what was there as it was comes up when it must. -/
import Derived.Test.YtknllmcpogoeoaaFm
import Derived.Deep.RegionHeld3
import Derived.Laws.CopyOwn
namespace Go.Proofs.Ytknllmcpogoeoaa
open Go.RowKit
set_option linter.unusedVariables false
set_option linter.unusedSimpArgs false
section
variable {P : Program} {md : Region.Mode} {ops : Array Oper} {Q : Exit → Act → World → Prop} {S S' : World → Prop}
theorem wpAnyH_mono (h : ∀ w, S' w → S w) : ∀ (fuel : Nat) (listed : Array Bool) (a : Act) (w : World), wpAnyH P md ops Q S' fuel listed a w → wpAnyH P md ops Q S fuel listed a w
  | 0, _, _, _, H => H
  | fuel + 1, _, _, _, H => ⟨H.1, fun i hi => wpOp_mono (fun a' w' h' => ⟨h w' h'.1, wpAnyH_mono h fuel _ a' w' h'.2⟩) (H.2 i hi)⟩
theorem rg_start {id : Nat} {a : Act} {w : World} (hm : P.follows .mixedOrders = true) (h : wpAnyH P .any ops Q (Ext w.drew) ops.size (Array.replicate ops.size false) a w.drew) : (Code.region id ops true).wp P Q a w :=
  wp_region_held hm h
theorem rg_take {i : Nat} {oi : Oper} {d : Option Tmp} {v : Value} {fuel : Nat} {listed : Array Bool} {a : Act} {w : World} (hi : ops[i]? = some oi) (hd : oi.dst = d)
    (hs : Region.noSelect ops = true) (hf : Region.free md ops listed i = true) (hr : (Region.ready md ops listed).contains i = true)
    (hQ : ∀ c a w, Q (.panic c) (a.put d v) w → Q (.panic c) a w) (hw : Region.wanted oi (yielded ops a.tmps) = true) (hy : ∀ w', Ext w w' → (execOp a.eval oi).run P w' = .ok (.value v) w')
    (h : wpAnyH P md ops Q (Ext w) fuel (listed.setIfInBounds i true) (a.put d v) w) : wpAnyH P md ops Q (Ext w) (fuel + 1) listed a w := by
  subst hd
  exact wpAnyH_take hi hs hf hr hQ (Or.inl ⟨hw, hy⟩) (Ext.refl w) h
theorem rg_skip {i : Nat} {oi : Oper} {d : Option Tmp} {fuel : Nat} {listed : Array Bool} {a : Act} {w : World} (hi : ops[i]? = some oi) (hd : oi.dst = d)
    (hs : Region.noSelect ops = true) (hf : Region.free md ops listed i = true) (hr : (Region.ready md ops listed).contains i = true)
    (hQ : ∀ c a w, Q (.panic c) (a.put d undef) w → Q (.panic c) a w) (hw : Region.wanted oi (yielded ops a.tmps) = false)
    (h : wpAnyH P md ops Q (Ext w) fuel (listed.setIfInBounds i true) (a.put d undef) w) : wpAnyH P md ops Q (Ext w) (fuel + 1) listed a w := by
  subst hd
  exact wpAnyH_take hi hs hf hr hQ (Or.inr ⟨hw, rfl⟩) (Ext.refl w) h
/-- the one operation that may come up -/
theorem rg_call {i : Nat} {oi : Oper} {fuel : Nat} {listed : Array Bool} {a : Act} {w : World} (hi : ops[i]? = some oi) (hr : Region.ready md ops listed = [i]) (hw : Region.wanted oi (yielded ops a.tmps) = true)
    (h : ∀ K' : Act → World → Prop, Shut (∀ a' w', Ext w w' → wpAnyH P md ops Q (Ext w') fuel (listed.setIfInBounds i true) a' w' → K' a' w') → Oper.wp P oi a w K' Q) :
    wpAnyH P md ops Q (Ext w) (fuel + 1) listed a w := by
  refine wpAnyH_ready hr (by simp) (AllReadyH.cons hi (fun K' hK => ?_) AllReadyH.nil)
  rw [if_pos hw]
  exact h K' (fun a' w' hE hH => hK.out a' w' hE (fun _ => wpAnyH_mono (fun w2 h2 => Ext.tr hE h2) _ _ _ _ hH))
theorem rg_done {fuel : Nat} {listed : Array Bool} {a : Act} {w : World} (hr : Region.ready md ops listed = []) (h : Q .normal a w) : wpAnyH P md ops Q (Ext w) fuel listed a w := wpAnyH_done hr h fuel
/-! Where nothing is asked of the world: what looks at no memory is taken first; the rest comes up one at a time. -/
theorem rt_start {id : Nat} {a : Act} {w : World} (hm : P.follows .mixedOrders = true) (h : wpAny P .any ops Q ops.size (Array.replicate ops.size false) a w.drew) : (Code.region id ops true).wp P Q a w :=
  wp_region_any hm h
theorem rt_take {i : Nat} {oi : Oper} {d : Option Tmp} {v : Value} {fuel : Nat} {listed : Array Bool} {a : Act} {w : World} (hi : ops[i]? = some oi) (hd : oi.dst = d)
    (hs : Region.noSelect ops = true) (hf : Region.free md ops listed i = true) (hr : (Region.ready md ops listed).contains i = true)
    (hQ : ∀ c a w, Q (.panic c) (a.put d v) w → Q (.panic c) a w) (hw : Region.wanted oi (yielded ops a.tmps) = true) (hy : ∀ w', (execOp a.eval oi).run P w' = .ok (.value v) w')
    (h : wpAny P md ops Q fuel (listed.setIfInBounds i true) (a.put d v) w) : wpAny P md ops Q (fuel + 1) listed a w := by
  subst hd
  exact wpAny_take hi hs hf hr hQ (Or.inl ⟨hw, hy⟩) h
theorem rt_skip {i : Nat} {oi : Oper} {d : Option Tmp} {fuel : Nat} {listed : Array Bool} {a : Act} {w : World} (hi : ops[i]? = some oi) (hd : oi.dst = d)
    (hs : Region.noSelect ops = true) (hf : Region.free md ops listed i = true) (hr : (Region.ready md ops listed).contains i = true)
    (hQ : ∀ c a w, Q (.panic c) (a.put d undef) w → Q (.panic c) a w) (hw : Region.wanted oi (yielded ops a.tmps) = false)
    (h : wpAny P md ops Q fuel (listed.setIfInBounds i true) (a.put d undef) w) : wpAny P md ops Q (fuel + 1) listed a w := by
  subst hd
  exact wpAny_take hi hs hf hr hQ (Or.inr ⟨hw, rfl⟩) h
theorem rt_one {i : Nat} {oi : Oper} {fuel : Nat} {listed : Array Bool} {a : Act} {w : World} (hi : ops[i]? = some oi) (hr : Region.ready md ops listed = [i]) (hw : Region.wanted oi (yielded ops a.tmps) = true)
    (h : ∀ K' : Act → World → Prop, Shut (∀ a' w', wpAny P md ops Q fuel (listed.setIfInBounds i true) a' w' → K' a' w') → Oper.wp P oi a w K' Q) :
    wpAny P md ops Q (fuel + 1) listed a w := by
  refine wpAny_ready hr (by simp) (AllReady.cons hi (fun K' hK => ?_) AllReady.nil)
  rw [if_pos hw]
  exact h K' hK
theorem rt_done {fuel : Nat} {listed : Array Bool} {a : Act} {w : World} (hr : Region.ready md ops listed = []) (h : Q .normal a w) : wpAny P md ops Q fuel listed a w := wpAny_done hr h fuel
/-! The same as above, where the blocks of a list may turn. -/
theorem rf_start {id : Nat} {a : Act} {w : World} (s : List Nat) (hm : P.follows .mixedOrders = true) (h : wpAnyH P .any ops Q (Frm s w.drew) ops.size (Array.replicate ops.size false) a w.drew) : (Code.region id ops true).wp P Q a w :=
  wp_region_held hm h
theorem rf_take {s : List Nat} {i : Nat} {oi : Oper} {d : Option Tmp} {v : Value} {fuel : Nat} {listed : Array Bool} {a : Act} {w : World} (hi : ops[i]? = some oi) (hd : oi.dst = d)
    (hs : Region.noSelect ops = true) (hf : Region.free md ops listed i = true) (hr : (Region.ready md ops listed).contains i = true)
    (hQ : ∀ c a w, Q (.panic c) (a.put d v) w → Q (.panic c) a w) (hw : Region.wanted oi (yielded ops a.tmps) = true) (hy : ∀ w', Frm s w w' → (execOp a.eval oi).run P w' = .ok (.value v) w')
    (h : wpAnyH P md ops Q (Frm s w) fuel (listed.setIfInBounds i true) (a.put d v) w) : wpAnyH P md ops Q (Frm s w) (fuel + 1) listed a w := by
  subst hd
  exact wpAnyH_take hi hs hf hr hQ (Or.inl ⟨hw, hy⟩) (Frm.refl s w) h
theorem rf_skip {s : List Nat} {i : Nat} {oi : Oper} {d : Option Tmp} {fuel : Nat} {listed : Array Bool} {a : Act} {w : World} (hi : ops[i]? = some oi) (hd : oi.dst = d)
    (hs : Region.noSelect ops = true) (hf : Region.free md ops listed i = true) (hr : (Region.ready md ops listed).contains i = true)
    (hQ : ∀ c a w, Q (.panic c) (a.put d undef) w → Q (.panic c) a w) (hw : Region.wanted oi (yielded ops a.tmps) = false)
    (h : wpAnyH P md ops Q (Frm s w) fuel (listed.setIfInBounds i true) (a.put d undef) w) : wpAnyH P md ops Q (Frm s w) (fuel + 1) listed a w := by
  subst hd
  exact wpAnyH_take hi hs hf hr hQ (Or.inr ⟨hw, rfl⟩) (Frm.refl s w) h
theorem rf_call {s : List Nat} {i : Nat} {oi : Oper} {fuel : Nat} {listed : Array Bool} {a : Act} {w : World} (hi : ops[i]? = some oi) (hr : Region.ready md ops listed = [i]) (hw : Region.wanted oi (yielded ops a.tmps) = true)
    (h : ∀ K' : Act → World → Prop, Shut (∀ a' w', Frm s w w' → wpAnyH P md ops Q (Frm s w') fuel (listed.setIfInBounds i true) a' w' → K' a' w') → Oper.wp P oi a w K' Q) :
    wpAnyH P md ops Q (Frm s w) (fuel + 1) listed a w := by
  refine wpAnyH_ready hr (by simp) (AllReadyH.cons hi (fun K' hK => ?_) AllReadyH.nil)
  rw [if_pos hw]
  exact h K' (fun a' w' hE hH => hK.out a' w' hE (fun _ => wpAnyH_mono (fun w2 h2 => Frm.tr hE h2) _ _ _ _ hH))
theorem rf_done {s : List Nat} {fuel : Nat} {listed : Array Bool} {a : Act} {w : World} (hr : Region.ready md ops listed = []) (h : Q .normal a w) : wpAnyH P md ops Q (Frm s w) fuel listed a w := wpAnyH_done hr h fuel
end
/-- append(s, x...) on the call's own bytes, as one operation -/
theorem wpO_app {o : Oper} {act : Act} {w : World} {K : Act → World → Prop} {Q : Exit → Act → World → Prop} (s x : Operand) {ty : TypeId} (hop : o.op = .call { callee := .builtin .append, args := #[s, x], argTypes := #[22, 22] })
    (B : Nat) {a : Option Addr} {n c : Nat} {l : List UInt8} {ax : Option Addr} {m cx : Nat} {r : List UInt8}
    (N : Nat) (L : List UInt8) (hs : act.eval s = .slice a n c) (hx : act.eval x = .slice ax m cx)
    (ho : Ow w B a n c l) (hb : Bs w ax m r) (hn : ax = none → cx = 0) (hN : N = n + m) (hL : L = l ++ r) (hbd : N ≤ 140737488355328) (hB : B ≤ w.heap.size)
    (hK : ∀ a' c' w', Ow w' B a' N c' L → w.grownBy w' (Value.slice a n c).ownBlock → K (act.put o.dst (.slice a' N c')) w') : Oper.wp Try.prog o act w K Q := by
  subst hN hL
  obtain ⟨a', c', w', hr, h1, h2⟩ := run_app w o.type B a n c l ax m cx r ho hb hbd hB hn
  unfold Oper.wp
  simp only [execOp, hop, resolve, invoke, builtin, Sem.run_bind, Sem.run_pure, Result.andThen_ok, List.map_toArray, List.map_cons, List.map_nil, hs, hx, hr]
  exact hK a' c' w' h1 h2
/-- the cells of the call's own bytes -/
theorem Ow.form {w : World} {B : Nat} {a : Option Addr} {n c : Nat} {l : List UInt8} (h : Ow w B a n c l) :
    (a = none ∧ n = 0 ∧ c = 0 ∧ l = []) ∨ ∃ (g : Nat) (cur : List Value), a = some ⟨g, 0, none⟩ ∧ B ≤ g ∧ w.heap[g]? = some (.cells cur.toArray 5 (0, 0)) ∧ n ≤ c ∧ c ≤ maxLen ∧ cur.length = c ∧ cur.take n = u8s l := by
  have hl := h.leng
  rcases h.2 with ⟨e, h0⟩ | ⟨g, cap, cur, e, hg, hh, hn, hm, hs, ht⟩
  · simp only [Value.slice.injEq] at e
    subst h0
    exact .inl ⟨e.1, rfl, e.2.2, List.eq_nil_of_length_eq_zero hl⟩
  · simp only [Value.slice.injEq] at e
    obtain ⟨rfl, _, rfl⟩ := e
    refine .inr ⟨g, cur.toList, rfl, hg, by simpa using hh, hn, hm, by simp [hs], by simpa using ht⟩
theorem Ow.mk {w : World} {B : Nat} {n c : Nat} {l : List UInt8} {g : Nat} {cur : List Value} (hl : l.length = n) (hg : B ≤ g) (hh : w.heap[g]? = some (.cells cur.toArray 5 (0, 0))) (hn : n ≤ c) (hm : c ≤ maxLen) (hs : cur.length = c) (ht : cur.take n = u8s l) :
    Ow w B (some ⟨g, 0, none⟩) n c l := by
  refine ⟨by rw [u8s_len, hl]; simp, .inr ⟨g, c, cur.toArray, rfl, hg, hh, hn, hm, by simp [hs], by simpa using ht⟩⟩
theorem Ow.pre {w : World} {B : Nat} {a : Option Addr} {n c : Nat} {l : List UInt8} (h : Ow w B a n c l) (k : Nat) (hk : k ≤ n) : Ow w B a k c (l.take k) := by
  have hl := h.leng
  rcases h.form with ⟨rfl, rfl, rfl, rfl⟩ | ⟨g, cur, rfl, hg, hh, hn, hm, hs, ht⟩
  · obtain rfl : k = 0 := by omega
    exact h
  · refine Ow.mk (by simp; omega) hg hh (by omega) hm hs ?_
    have := congrArg (List.take k) ht
    rw [List.take_take, Nat.min_eq_left hk] at this
    rw [this]
    simp [u8s, List.map_take]
/-- one byte is set -/
theorem Ow.setAt {w : World} {B : Nat} {g n c : Nat} {l : List UInt8} (h : Ow w B (some ⟨g, 0, none⟩) n c l) (k : Nat) (hk : k < n) (v : UInt8) (i : Int) (hi : i = (v.toNat : Int)) :
    Ow (w.setCell ⟨g, k, none⟩ (.int .u8 i)) B (some ⟨g, 0, none⟩) n c (l.set k v) := by
  subst hi
  have hl := h.leng
  rcases h.form with ⟨e, _⟩ | ⟨g', cur, e, hg, hh, hn, hm, hs, ht⟩
  · cases e
  · simp only [Option.some.injEq, Addr.mk.injEq, and_true] at e
    subst e
    refine Ow.mk (cur := cur.set k (.int .u8 (v.toNat : Int))) (by simp [hl]) hg ?_ hn hm (by simp [hs]) ?_
    · have := Blk.set_ (t := 5) (cs := cur) (g := g) (w := w) hh k (.int .u8 (v.toNat : Int))
      exact this
    · rw [List.take_set, ht]
      simp [u8s, List.map_set]
/-- copy(s[k:], x) into the call's own bytes: one run equation -/
theorem run_copyO (w : World) (ty : TypeId) (B : Nat) (a : Option Addr) (n c k : Nat) (l : List UInt8) (ax : Option Addr) (m cx : Nat) (r : List UInt8) (ho : Ow w B a n c l) (hb : Bs w ax m r) (hk : k ≤ n) (dl dc : Nat) (hdl : dl = n - k) :
    ∃ w', (Builtin.copy_ #[22, 22] ty #[.slice (if c = k then a else Option.map (fun x => x.add k) a) dl dc, .slice ax m cx]).run Try.prog w = .ok (.int .i64 ((min m (n - k) : Nat) : Int)) w' ∧
      Ow w' B a n c (l.take k ++ r.take (min m (n - k)) ++ l.drop (k + min m (n - k))) ∧ w.grownBy w' (Value.slice a n c).ownBlock := by
  subst hdl
  have hl := ho.leng
  have hr := hb.leng
  have hsz : (Try.prog.info? 5).map (·.size) = some 1 := by
    obtain ⟨i0, hi, hz0, hz1, hz2⟩ := info_parts info5
    rw [hi]; simp [hz1]
  by_cases h0 : min m (n - k) = 0
  · refine ⟨w, ?_, ?_, World.grownBy.refl _ _⟩
    · rw [h0]
      exact run_copy_none (P := Try.prog) w 22 22 ty 5 _ ax _ dc m cx Try.underlying22 hsz h0
    · rw [h0]; simpa using ho
  · rcases ho.form with ⟨rfl, rfl, rfl, rfl⟩ | ⟨g, cur, rfl, hg, hh, hn, hm, hs, ht⟩
    · simp at h0
    · obtain ⟨b, off, rfl, hcell⟩ := hb.at (by omega)
      rw [if_neg (by omega)]
      simp only [Option.map_some, Addr.add_lit, Nat.zero_add]
      obtain ⟨d, hd⟩ : ∃ d, d = min m (n - k) := ⟨_, rfl⟩
      rw [← hd] at h0 ⊢
      have hcl : ((u8s r).take d).length = d := by rw [List.length_take, u8s_len, hr]; omega
      have hrun := run_copy_row (P := Try.prog) w 22 22 ty 5 g k (n - k) dc ⟨b, off, none⟩ m cx cur.toArray 5 ((u8s r).take d) Try.underlying22 hsz hh (by rw [hcl, hd])
        (fun j v hv => by
          rw [List.getElem?_take] at hv
          by_cases hj : j < d
          · rw [if_pos hj, u8s_get r j (by omega)] at hv
            rw [Addr.add_lit, hcell j (by omega), hv]
          · rw [if_neg hj] at hv; cases hv) (by rw [hcl]; simp; omega) (fun v hv => u8s_one r v (List.mem_of_mem_take hv))
      rw [hcl] at hrun
      refine ⟨_, hrun, ?_, ?_⟩
      · refine Ow.mk (cur := cur.take k ++ (u8s r).take d ++ cur.drop (k + d)) (by simp; omega) hg (setRow_heap w g _ _ 5 (0, 0) hh) hn hm (by simp; rw [u8s_len]; omega) ?_
        have e0 : (cur.take k).length = k := by rw [List.length_take]; omega
        have e1 : List.take k cur = u8s (l.take k) := by
          have := congrArg (List.take k) ht
          rw [List.take_take, Nat.min_eq_left hk] at this
          rw [this]; simp [u8s, List.map_take]
        have e3 : List.take (n - (k + d)) (List.drop (k + d) cur) = u8s (l.drop (k + d)) := by
          have := congrArg (List.drop (k + d)) ht
          rw [List.drop_take] at this
          rw [this]
          simp [u8s, List.map_drop]
        have e4 : (cur.take k ++ (u8s r).take d).length = k + d := by rw [List.length_append, e0, hcl]
        rw [List.take_append, e4, List.take_of_length_le (by rw [e4]; omega), e3, e1, u8s_app, u8s_app]
        simp [u8s, List.map_take]
      · refine ⟨rfl, rfl, rfl, by simp, fun j _ hj => ?_⟩
        exact setRow_other w g j _ (fun e => hj (by rw [e]; rfl))
/-- the same as one operation -/
theorem wpO_copy {o : Oper} {act : Act} {w : World} {K : Act → World → Prop} {Q : Exit → Act → World → Prop} (s x : Operand) (hop : o.op = .call { callee := .builtin .copy, args := #[s, x], argTypes := #[22, 22] })
    (B : Nat) {a : Option Addr} {n c k dl dc : Nat} {l : List UInt8} {ax : Option Addr} {m cx : Nat} {r : List UInt8}
    (hs : act.eval s = .slice (if c = k then a else Option.map (fun x => x.add k) a) dl dc) (hx : act.eval x = .slice ax m cx) (ho : Ow w B a n c l) (hb : Bs w ax m r) (hk : k ≤ n) (hdl : dl = n - k)
    (hK : ∀ w', Ow w' B a n c (l.take k ++ r.take (min m (n - k)) ++ l.drop (k + min m (n - k))) → w.grownBy w' (Value.slice a n c).ownBlock → K (act.put o.dst (.int .i64 ((min m (n - k) : Nat) : Int))) w') : Oper.wp Try.prog o act w K Q := by
  obtain ⟨w', hr, h1, h2⟩ := run_copyO w o.type B a n c k l ax m cx r ho hb hk dl dc hdl
  unfold Oper.wp
  simp only [execOp, hop, resolve, invoke, builtin, Sem.run_bind, Sem.run_pure, Result.andThen_ok, List.map_toArray, List.map_cons, List.map_nil, hs, hx, hr]
  exact hK w' h1 h2
end Go.Proofs.Ytknllmcpogoeoaa
