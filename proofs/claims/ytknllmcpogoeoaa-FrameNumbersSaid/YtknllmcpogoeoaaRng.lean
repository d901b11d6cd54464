/- 'for x := range frame.Scan(p)': the law of that statement, for any body that keeps the loop's own record. After the kit's own law wpIn_rangeFunc_ownH, whose proof's road it takes. -/
import Derived.Test.YtknllmcpogoeoaaFr6
import Derived.RangeFuncLeaves
import Derived.RangeFuncBound
import Derived.RangeFuncNested
import Derived.Shelf.Abstract
namespace Go.Proofs.Ytknllmcpogoeoaa
open Go.RowKit
set_option linter.unusedVariables false
set_option linter.unusedSimpArgs false
/-- every block of cells, and every block below B, lies as it lay -/
structure Ck (B : Nat) (W W' : World) : Prop where
  os : W'.os = W.os
  tape : W'.tape = W.tape
  output : W'.output = W.output
  size : W.heap.size ≤ W'.heap.size
  same : ∀ (k : Nat) (o : Obj), W.heap[k]? = some o → (k < B ∨ o.isCells = true) → W'.heap[k]? = some o
/-- every block from B on that is no cells lies as it lay -/
def Nk (B : Nat) (W W' : World) : Prop := ∀ (k : Nat) (o : Obj), W.heap[k]? = some o → B ≤ k → o.isCells = false → W'.heap[k]? = some o
theorem Ext.ck {W W' : World} (h : Ext W W') (B : Nat) : Ck B W W' := ⟨h.os, h.tape, h.output, h.size, fun k o hk _ => h.heap hk⟩
theorem Ext.nk {W W' : World} (h : Ext W W') (B : Nat) : Nk B W W' := fun k o hk _ _ => h.heap hk
theorem Nk.tr {B : Nat} {a b c : World} (h : Nk B a b) (g : Nk B b c) : Nk B a c := fun k o hk hB ho => g k o (h k o hk hB ho) hB ho
theorem Nk.setCell {B : Nat} {W W' : World} (h : Nk B W W') (a : Addr) (v : Value) : Nk B W (W'.setCell a v) := fun k o hk hB ho => by
  have := h k o hk hB ho
  show (W'.heap.modify a.block _)[k]? = some o
  rw [Array.getElem?_modify]
  by_cases e : a.block = k
  · rw [if_pos e, this]
    cases o <;> first | rfl | (simp [Obj.isCells] at ho)
  · rw [if_neg e]; exact this
theorem Ck.put {B : Nat} {W : World} {k : Nat} {o : Obj} (o' : Obj) (hB : B ≤ k) (h : W.heap[k]? = some o) (ho : o.isCells = false) : Ck B W (W.putObj k o') :=
  ⟨rfl, rfl, rfl, by simp, fun j x hj hx => by
    by_cases e : j = k
    · subst e
      rw [h] at hj
      cases hj
      rcases hx with hx | hx
      · omega
      · rw [ho] at hx; cases hx
    · rw [World.putObj_heap_other e]; exact hj⟩
theorem Ck.below {B : Nat} {w W W' : World} (hB : B = w.heap.size) (h : Ck B W W') (hb : Ext w W) : Ext w W' :=
  ⟨h.os.trans hb.os, h.tape.trans hb.tape, h.output.trans hb.output, Nat.le_trans hb.size h.size, fun k hk => by
    have h1 := hb.block k hk
    have h2 : w.heap[k]? = some w.heap[k] := Array.getElem?_eq_getElem hk
    rw [h2] at h1 ⊢
    exact h.same k _ h1 (.inl (by omega))⟩
theorem Ck.cell {B : Nat} {W W' : World} (h : Ck B W W') {b o : Nat} {v : Value} (hc : W.cell? ⟨b, o, none⟩ = some v) : W'.cell? ⟨b, o, none⟩ = some v := by
  obtain ⟨x, hx, hxc⟩ := cells_of_cell hc
  have := h.same b x hx (.inr hxc)
  rw [World.cell?_of_block (w := W) (this.trans hx.symm)]
  exact hc
theorem Ck.heap {B : Nat} {W W' : World} (h : Ck B W W') {b : Nat} {c : Array Value} {t : TypeId} {fr : Nat × Nat} (hb : W.heap[b]? = some (.cells c t fr)) : W'.heap[b]? = some (.cells c t fr) := h.same b _ hb (.inr rfl)
theorem Ck.bs {B : Nat} {W W' : World} (h : Ck B W W') {a : Option Addr} {len : Nat} {l : List UInt8} (hb : Bs W a len l) : Bs W' a len l :=
  ⟨hb.leng, fun k hk => by
    obtain ⟨b, off, e, hc⟩ := hb.cell k hk
    exact ⟨b, off, e, h.cell hc⟩⟩
theorem Ck.row {B : Nat} {W W' : World} (h : Ck B W W') {B' e s n : Nat} {v : Value} {xs : List Value} (ho : W.ownsRow B' e s v n xs) : W'.ownsRow B' e s v n xs := by
  refine ⟨ho.1, ?_⟩
  rcases ho.2 with h1 | ⟨g, cap, cur, e1, hg, hh, r⟩
  · exact .inl h1
  · exact .inr ⟨g, cap, cur, e1, hg, h.heap hh, r⟩
theorem Ck.part {B B' : Nat} {W W' : World} (h : Ck B W W') {p : PartS} {v : Value} (hp : PartAt B' W p v) : PartAt B' W' p v := by
  obtain ⟨a, n, c, e, ho⟩ := hp
  exact ⟨a, n, c, e, h.row ho⟩
theorem Ck.prow {B B' e c : Nat} {W W' : World} (h : Ck B W W') {a : Option Addr} {rows : List (Value × PartS)} (hp : Prow e W B' a c rows) : Prow e W' B' a c rows :=
  ⟨h.row hp.1, fun r hr => h.part (p := r.2) (v := r.1) (hp.2 r hr)⟩

set_option maxHeartbeats 800000 in
/-- the closure that Scan hands back -/
theorem scan1_in (L B fb : Nat) (D : List PartS) (ap : Option Addr) (len cap : Nat) (l : List UInt8) (J : Nat → World → Prop) (Jx : World → Prop) (hW : ScanWord L B D ap len l J Jx) (hD : D = scanP 0 l)
    (hm : len ≤ 1099511627776) (hc : len ≤ cap) (W0 : World) (hf : W0.cell? ⟨fb, 0, none⟩ = some (.slice ap len cap)) (h0 : J 0 W0) :
    CallsIn Fence.wide 0 Try.prog 135 #[.func (.yield L) #[] #[], .pointer (some ⟨fb, 0, none⟩)] W0 (ScanEnd D J Jx) := by
  refine callsIn_of_wp Try.func135 rfl trivial ?_ rfl
  simp only [Try.ntmps135, List.size_toArray, List.length_cons, List.length_nil, Nat.reduceAdd, Nat.reduceSub, Array.replicate_succ, Array.replicate_zero, List.push_toArray, List.append_toArray, List.nil_append, List.cons_append]
  gi_wp2_with (refine ⟨trivial, rfl, ?_⟩; gi_at_call 136; refine (scan_iter L B D ap len cap l J Jx hW hD hm hc W0 h0).mono ?_; rintro e W2 ⟨⟨v, rfl⟩, h2⟩)
  go_end0
  exact ⟨⟨_, rfl⟩, h2⟩
/-- how the body leaves a round -/
def bpost (B : Nat) (I : World → Prop) (Ix : Code → World → Prop) (W : World) : Exit → Act → World → Prop
  | .normal, _, W3 => Nk B W W3 ∧ I W3
  | .exit id, _, W3 => Nk B W W3 ∧ Ix (.exit id) W3
  | .ret, _, W3 => Nk B W W3 ∧ Ix .ret W3
  | _, _, _ => False

set_option maxHeartbeats 1600000 in
/-- THE LAW: 'for x := range Scan(p)' -/
theorem range_scan {gop : Operand} {p0 : Tmp} {assign body : Code} {Q : Exit → Act → World → Prop} {a : Act} {w : World} {fb : Nat} {ap : Option Addr} {len cap : Nat} {l : List UInt8} {D : List PartS}
    (hg : a.eval gop = .func (.func 135) #[] #[.pointer (some ⟨fb, 0, none⟩)]) (hD : D = scanP 0 l) (hm : len ≤ 1099511627776) (hc : len ≤ cap)
    (I : Nat → World → Prop) (Ix : Code → World → Prop) (Ax : PartS → Value → Act → World → Prop)
    (hIf : ∀ i W, I i W → W.cell? ⟨fb, 0, none⟩ = some (.slice ap len cap) ∧ Bs W ap len l ∧ w.heap.size ≤ W.heap.size)
    (hIc : ∀ i W W', I i W → Ck w.heap.size W W' → I i W') (hXc : ∀ c W W', Ix c W → Ck w.heap.size W W' → Ix c W') (hAc : ∀ p v a' W W', Ax p v a' W → Ck w.heap.size W W' → Ax p v a' W') (h0 : I 0 w)
    (hassign : ∀ L i W p v K, I i W → D[i]? = some p → PartAt w.heap.size W p v → (∀ a' W', Nk w.heap.size W W' → I i W' → Ax p v a' W' → K a' W') →
      assign.wpIn (Fence.wide.inRound L) 0 Try.prog (Exit.then K (fun _ _ _ => False)) { tmps := a.tmps.setIfInBounds p0 (partV p v), defers := [] } W)
    (hbody : ∀ L i W p v a', I i W → D[i]? = some p → Ax p v a' W → body.wpIn (Fence.wide.inRound L) 0 Try.prog (bpost w.heap.size (I (i + 1)) Ix W) a' W)
    (hdone : ∀ d W, I D.length W → W.heap[d]? = some (.deferred (some [])) → w.heap.size ≤ d → Q .normal { a with defers := { target := .collected d, args := #[] } :: a.defers } W)
    (hstop : ∀ d c W, Ix c W → W.heap[d]? = some (.deferred (some [])) → w.heap.size ≤ d → c.wpIn Fence.wide 0 Try.prog Q { a with defers := { target := .collected d, args := #[] } :: a.defers } W) :
    (Code.rangeFunc gop #[p0] assign body).wpIn Fence.wide 0 Try.prog Q a w := by
  refine wpIn_rangeFunc ?_
  intro fn hfn
  obtain ⟨rec, hrec⟩ : ∃ rec : LoopState → Option Code → Loop, rec = fun st pe => { state := st, pending := pe, fn, tmps := a.tmps, params := #[p0], assign, body, defers := w.heap.size } := ⟨_, rfl⟩
  obtain ⟨W1, hW1⟩ : ∃ W1, (w.alloc (.deferred (some []))).alloc (.loop (rec .ready none)) = W1 := ⟨_, rfl⟩
  have hL1 : W1.heap[w.heap.size + 1]? = some (.loop (rec .ready none)) := by
    rw [← hW1]; have := World.alloc_heap_new (w.alloc (.deferred (some []))) (.loop (rec .ready none)); rwa [World.size_alloc] at this
  have hK1 : W1.heap[w.heap.size]? = some (.deferred (some [])) := by
    rw [← hW1]; exact (Below.heap_alloc _ _ _ (by simp)).trans (World.alloc_heap_new w _)
  have hE1 : Ext w W1 := by rw [← hW1]; exact ((Ext.refl w).al _).al _
  have hI1 : I 0 W1 := hIc 0 w W1 h0 (hE1.ck _)
  obtain ⟨J, hJ⟩ : ∃ J : Nat → World → Prop, J = fun i W => I i W ∧ W.heap[w.heap.size + 1]? = some (.loop (rec .ready none)) ∧ W.heap[w.heap.size]? = some (.deferred (some [])) := ⟨_, rfl⟩
  obtain ⟨Jx, hJx⟩ : ∃ Jx : World → Prop, Jx = fun W => ∃ c, Ix c W ∧ W.heap[w.heap.size + 1]? = some (.loop (rec .done (some c))) ∧ W.heap[w.heap.size]? = some (.deferred (some [])) := ⟨_, rfl⟩
  have hword : ScanWord (w.heap.size + 1) w.heap.size D ap len l J Jx := by
    refine ⟨?_, ?_, ?_, ?_⟩
    · intro i W h; rw [hJ] at h; exact (hIf i W h.1).2.1
    · intro i W h; rw [hJ] at h; exact (hIf i W h.1).2.2
    · intro i W W' h e; rw [hJ] at h ⊢; exact ⟨hIc i W W' h.1 (e.ck _), e.heap h.2.1, e.heap h.2.2⟩
    · intro i W p v h hp hpa
      rw [hJ] at h
      obtain ⟨hi, hl, hk⟩ := h
      have hy := run_yield (P := Try.prog) (args := #[partV p v]) hl (by rw [hrec]; rfl)
      rw [hrec] at hy
      refine ⟨fn, _, assign, body, hy, roundIn_of_wpIn hfn ?_⟩
      clear hy
      have hAs := hassign (w.heap.size + 1) i W p v (fun a₁ w₁ => ∃ w₂, (Instr.beginRound (w.heap.size + 1)).run Try.prog w₁ = .ok () w₂ ∧ body.wpIn (Fence.wide.inRound (w.heap.size + 1)) 0 Try.prog (roundPost Try.prog (w.heap.size + 1) fun e W' => (e = .returned (.bool true) ∧ J (i + 1) W') ∨ (e = .returned (.bool false) ∧ Jx W')) a₁ w₂) hi hp hpa ?_
      · have hf : ((#[p0] : Array Tmp).zip #[partV p v]).foldl (fun tmps x => match x with | (t, a) => tmps.setIfInBounds t a) a.tmps = a.tmps.setIfInBounds p0 (partV p v) := by simp
        rw [← hf] at hAs
        exact hAs
      intro a' Wa hnk hia hax
      have hl2 := hnk _ _ hl (by omega) rfl
      have hk2 := hnk _ _ hk (Nat.le_refl _) rfl
      have hlt : w.heap.size + 1 < Wa.heap.size := (Array.getElem?_eq_some_iff.1 hl2).1
      refine ⟨_, run_beginRound hl2 (by rw [hrec]), ?_⟩
      have hl3 : (Wa.putObj (w.heap.size + 1) (.loop { rec .ready none with state := .busy })).heap[w.heap.size + 1]? = some (.loop { rec .ready none with state := .busy }) := World.putObj_heap_same hlt
      have hk3 : (Wa.putObj (w.heap.size + 1) (.loop { rec .ready none with state := .busy })).heap[w.heap.size]? = some (.deferred (some [])) := (World.putObj_heap_other (by omega)).trans hk2
      have hck : Ck w.heap.size Wa (Wa.putObj (w.heap.size + 1) (.loop { rec .ready none with state := .busy })) := Ck.put _ (by omega) hl2 rfl
      refine wpIn_mono (hbody _ i _ p v a' (hIc _ _ _ hia hck) hp (hAc _ _ _ _ _ hax hck)) ?_
      have fin : ∀ (jump : Option Code) (W3 : World), Nk w.heap.size (Wa.putObj (w.heap.size + 1) (.loop { rec .ready none with state := .busy })) W3 →
          (Instr.endRound (w.heap.size + 1) jump).run Try.prog W3 = .ok (.bool jump.isNone) (W3.putObj (w.heap.size + 1) (.loop (rec (if jump.isNone then .ready else .done) jump))) ∧
          Ck w.heap.size W3 (W3.putObj (w.heap.size + 1) (.loop (rec (if jump.isNone then .ready else .done) jump))) ∧
          (W3.putObj (w.heap.size + 1) (.loop (rec (if jump.isNone then .ready else .done) jump))).heap[w.heap.size + 1]? = some (.loop (rec (if jump.isNone then .ready else .done) jump)) ∧
          (W3.putObj (w.heap.size + 1) (.loop (rec (if jump.isNone then .ready else .done) jump))).heap[w.heap.size]? = some (.deferred (some [])) := fun jump W3 h3 => by
        have g3 := h3 _ _ hl3 (by omega) rfl
        have := run_endRound (P := Try.prog) jump g3
        rw [hrec] at this ⊢
        exact ⟨this, Ck.put _ (by omega) g3 rfl, World.putObj_heap_same (Array.getElem?_eq_some_iff.1 g3).1, (World.putObj_heap_other (by omega)).trans (h3 _ _ hk3 (Nat.le_refl _) rfl)⟩
      rintro e a3 W3 hp3
      cases e with
      | normal =>
        obtain ⟨hn3, hi3⟩ := hp3
        obtain ⟨hr, c3, l3, k3⟩ := fin none W3 hn3
        exact ⟨_, _, hr, .inl ⟨rfl, by rw [hJ]; exact ⟨hIc _ _ _ hi3 c3, l3, k3⟩⟩⟩
      | ret =>
        obtain ⟨hn3, hi3⟩ := hp3
        obtain ⟨hr, c3, l3, k3⟩ := fin (some .ret) W3 hn3
        exact ⟨_, _, hr, .inr ⟨rfl, by rw [hJx]; exact ⟨.ret, hXc _ _ _ hi3 c3, l3, k3⟩⟩⟩
      | exit id =>
        obtain ⟨hn3, hi3⟩ := hp3
        obtain ⟨hr, c3, l3, k3⟩ := fin (some (.exit id)) W3 hn3
        exact ⟨_, _, hr, .inr ⟨rfl, by rw [hJx]; exact ⟨.exit id, hXc _ _ _ hi3 c3, l3, k3⟩⟩⟩
      | goto t => exact hp3.elim
      | panic ch => exact hp3.elim
      | outgrown => exact hp3.elim
  refine ⟨w.heap.size + 1, [{ target := .collected w.heap.size, args := #[] }], W1, { target := .fn (.func 135) #[.pointer (some ⟨fb, 0, none⟩)], args := #[.func (.yield (w.heap.size + 1)) #[] #[]] }, W1, 135,
    #[.func (.yield (w.heap.size + 1)) #[] #[], .pointer (some ⟨fb, 0, none⟩)], W1, ?_, ?_, ?_, ?_, (fun h => by cases h), ?_⟩
  · rw [← hW1, hrec]; exact run_enterLoop_outer _ _ _ _ _
  · simp only [resolve, hg]
    simp [go_sem]
  · intro f' hf'; trivial
  · have eg := Go.Proofs.enters_of Try.func135 (by kernel_rfl) rfl
    simp [invoke, go_sem, eg]
  · refine (scan1_in (w.heap.size + 1) w.heap.size fb D ap len cap l J Jx hword hD hm hc W1 (hIf 0 W1 hI1).1 (by rw [hJ]; exact ⟨hI1, hL1, hK1⟩)).mono ?_
    rintro e W2 ⟨⟨v, rfl⟩, (h | h)⟩
    · rw [hJ] at h
      obtain ⟨hi, hl, hk⟩ := h
      refine ⟨none, _, by have := run_endLoop (P := Try.prog) hl (by rw [hrec]; simp); rw [hrec] at this; exact this, ?_⟩
      exact hdone w.heap.size _ (hIc _ _ _ hi (Ck.put _ (by omega) hl rfl)) ((World.putObj_heap_other (by omega)).trans hk) (Nat.le_refl _)
    · rw [hJx] at h
      obtain ⟨c, hi, hl, hk⟩ := h
      refine ⟨some c, _, by have := run_endLoop (P := Try.prog) hl (by rw [hrec]; simp); rw [hrec] at this; exact this, ?_⟩
      exact hstop w.heap.size c _ (hXc _ _ _ hi (Ck.put _ (by omega) hl rfl)) ((World.putObj_heap_other (by omega)).trans hk) (Nat.le_refl _)
end Go.Proofs.Ytknllmcpogoeoaa
