/- A sender, a receiver and the packets on the ways, in memory; what the steps of a play leave. -/
import Derived.Test.YtknllmcpogoeoaaT12
namespace Go.Proofs.Ytknllmcpogoeoaa
open Go.RowKit
set_option linter.unusedVariables false
set_option linter.unusedSimpArgs false
set_option maxRecDepth 100000
/-- no block of the list is of type t -/
def Ty (w : World) (S : List Nat) (t : TypeId) : Prop := ∀ k ∈ S, ∀ cur fr, w.heap[k]? ≠ some (.cells cur t fr)
section
variable {w w' : World} {B : Nat} {S : List Nat}
theorem Ty.blk {g t0 t : Nat} {cs : List Value} (h : Blk w g t0 cs) (hne : t0 ≠ t) : Ty w [g] t := by
  intro k hk cur fr e
  simp only [List.mem_singleton] at hk
  subst hk
  unfold Blk at h
  rw [h] at e
  injection e with e
  injection e with _ e _
  exact hne e
theorem Ty.row {e t : Nat} {v : Value} {xs : List Value} (h : Rw w B e v xs) (hne : e ≠ t) : Ty w v.ownBlock.toList t := by
  intro k hk cur fr he
  rw [Option.mem_toList] at hk
  exact h.nt he hne hk
theorem Ty.nil (t : TypeId) : Ty w [] t := fun k hk => by simp at hk
theorem Ty.cons {g t : Nat} (h : Ty w [g] t) (k : Ty w S t) : Ty w (g :: S) t := by
  intro j hj
  rcases List.mem_cons.1 hj with rfl | hj
  · exact h j (by simp)
  · exact k j hj
theorem Ty.app {S' : List Nat} {t : Nat} (h : Ty w S t) (k : Ty w S' t) : Ty w (S ++ S') t := by
  intro j hj
  rcases List.mem_append.1 hj with hj | hj
  · exact h j hj
  · exact k j hj
theorem Blk.ty {g t : Nat} {cs : List Value} (h : Blk w g t cs) (F : Frm S w w') (T : Ty w S t) : Blk w' g t cs := h.frm F (fun hg => T g hg _ _ h)
theorem Rw.ty {e : Nat} {v : Value} {xs : List Value} (h : Rw w B e v xs) (F : Frm S w w') (T : Ty w S e) : Rw w' B e v xs :=
  h.frm F fun g hg hS => by
    obtain ⟨_, _, cur, hc⟩ := h.blk g hg
    exact T g hS _ _ hc
theorem Ow.ty {a : Option Addr} {n c : Nat} {l : List UInt8} (h : Ow w B a n c l) (F : Frm S w w') (T : Ty w S 5) : Ow w' B a n c l :=
  h.frm F fun b off e hS => by
    subst e
    obtain ⟨cur, hc⟩ := h.blk5
    exact T b hS _ _ hc
theorem Els.ty {xs : List Value} {ls : List (List UInt8)} (h : Els w B xs ls) (F : Frm S w w') (T : Ty w S 5) : Els w' B xs ls :=
  ⟨h.len, fun i l hl => by obtain ⟨a, c, h1, h2⟩ := h.at_ i l hl; exact ⟨a, c, h1, h2.ty F T⟩⟩
theorem Sn.ty {g : Nat} {v : Value} {s : Snd} (h : Sn w B g v s) (F : Frm S w w') (T : Ty w S 184) (T5 : Ty w S 5) : Sn w' B g v s := by
  obtain ⟨a, c, h1, h2⟩ := h.file
  exact ⟨h.blk.ty F T, ⟨a, c, h1, h2.ty F T5⟩, h.len, h.idlt, h.flt, h.low⟩
theorem Rv.ty {g : Nat} {v : Value} {r : Rcv} (h : Rv w B g v r) (F : Frm S w w') (T : Ty w S 181) (T5 : Ty w S 5) : Rv w' B g v r := by
  obtain ⟨a, c, h1, h2⟩ := h.data
  exact ⟨h.blk.ty F T, ⟨a, c, h1, h2.ty F T5⟩, h.len, h.idlt, h.dlt, h.low⟩
/-- bytes whose block is none of the list -/
theorem Ow.off {a : Option Addr} {n c : Nat} {l : List UInt8} (h : Ow w B a n c l) (F : Frm S w w') (hs : ∀ k, (Value.slice a n c).ownBlock = some k → k ∉ S) : Ow w' B a n c l :=
  h.frm F fun b off e => hs b (by rw [e]; rfl)
theorem Els.off {xs : List Value} {ls : List (List UInt8)} (h : Els w B xs ls) (F : Frm S w w') (hs : ∀ v ∈ xs, ∀ k, v.ownBlock = some k → k ∉ S) : Els w' B xs ls :=
  ⟨h.len, fun i l hl => by obtain ⟨a, c, h1, h2⟩ := h.at_ i l hl; exact ⟨a, c, h1, h2.off F (hs _ (List.mem_of_getElem? h1))⟩⟩
theorem Frm.below {w0 : World} (F : Frm S w w') (L : Below B w0 w) (hB : B ≤ w.heap.size) (hS : ∀ k ∈ S, B ≤ k) : Below B w0 w' :=
  ⟨F.os.trans L.os, F.tape.trans L.tape, F.output.trans L.output, Nat.le_trans L.size F.size, fun k hk => (F.block k (by omega) (fun h => by have := hS k h; omega)).trans (L.block k hk)⟩
end
/-- the elements xs are rows of marks of the call's own -/
structure Bls (w : World) (B : Nat) (xs : List Value) (ls : List (List Bool)) : Prop where
  len : xs.length = ls.length
  at_ : ∀ (i : Nat) (l : List Bool), ls[i]? = some l → ∃ v, xs[i]? = some v ∧ Rw w B 4 v (bools l)
section
variable {w w' : World} {B : Nat} {S : List Nat} {xs ys : List Value} {ls ms : List (List Bool)}
theorem Bls.nil (w : World) (B : Nat) : Bls w B [] [] := ⟨rfl, fun i l h => by simp at h⟩
theorem Bls.ext (h : Bls w B xs ls) (E : Ext w w') : Bls w' B xs ls := ⟨h.len, fun i l hl => by obtain ⟨v, h1, h2⟩ := h.at_ i l hl; exact ⟨v, h1, h2.ext E⟩⟩
theorem Bls.ty (h : Bls w B xs ls) (F : Frm S w w') (T : Ty w S 4) : Bls w' B xs ls := ⟨h.len, fun i l hl => by obtain ⟨v, h1, h2⟩ := h.at_ i l hl; exact ⟨v, h1, h2.ty F T⟩⟩
theorem Bls.off (h : Bls w B xs ls) (F : Frm S w w') (hs : ∀ v ∈ xs, ∀ k, v.ownBlock = some k → k ∉ S) : Bls w' B xs ls :=
  ⟨h.len, fun i l hl => by obtain ⟨v, h1, h2⟩ := h.at_ i l hl; exact ⟨v, h1, h2.frm F (hs _ (List.mem_of_getElem? h1))⟩⟩
theorem Bls.app (h : Bls w B xs ls) (k : Bls w B ys ms) : Bls w B (xs ++ ys) (ls ++ ms) := by
  refine ⟨by rw [List.length_append, List.length_append, h.len, k.len], fun i l hl => ?_⟩
  by_cases hi : i < ls.length
  · rw [List.getElem?_append_left hi] at hl
    rw [List.getElem?_append_left (by rw [h.len]; exact hi)]
    exact h.at_ i l hl
  · rw [List.getElem?_append_right (by omega)] at hl
    rw [List.getElem?_append_right (by rw [h.len]; omega), h.len]
    exact k.at_ _ l hl
theorem Bls.one {v : Value} {l : List Bool} (h : Rw w B 4 v (bools l)) : Bls w B [v] [l] := by
  refine ⟨rfl, fun i m hm => ?_⟩
  cases i with
  | zero => simp at hm; subst hm; exact ⟨v, rfl, h⟩
  | succ i => simp at hm
theorem Bls.cells1 (h : Bls w B xs ls) : ∀ u ∈ xs, u.oneCell' = true := by
  intro u hu
  obtain ⟨i, hi⟩ := List.getElem?_of_mem hu
  have hlt := (List.getElem?_eq_some_iff.1 hi).1
  have hlt2 : i < ls.length := by rw [← h.len]; exact hlt
  obtain ⟨v, h1, h2⟩ := h.at_ i ls[i] (List.getElem?_eq_getElem hlt2)
  rw [hi] at h1
  simp only [Option.some.injEq] at h1
  obtain ⟨a, c, e, _⟩ := h2.shape
  rw [h1, e]; rfl
end
/-- the values that a world of the law holds, and the rows behind them -/
structure Wv where
  vs : Value
  vr : Value
  vh : Value
  va : Value
  vl : Value
  vf : Value
  vc : Value
  vb : Value
  vk : Value
  xf : List Value
  xb : List Value
  xk : List Value
/-- what they say -/
structure Wp where
  s : Snd
  r : Rcv
  has : List Bool
  ack : List Bool
  fwd : List Nat
  cks : List Nat
  bck : List (List Bool)
  aks : List (List Bool)
def wCells (gs gr : Nat) (V : Wv) : List Value := [.pointer (some ⟨gs, 0, none⟩), .pointer (some ⟨gr, 0, none⟩), V.vh, V.va, V.vl, V.vf, V.vc, V.vb, V.vk]
/-- a world of the law in memory -/
structure Wd (w : World) (B gw gs gr : Nat) (V : Wv) (p : Wp) : Prop where
  blk : Blk w gw 158 (wCells gs gr V)
  low : B ≤ gw
  sn : Sn w B gs V.vs p.s
  rv : Rv w B gr V.vr p.r
  hh : Rw w B 4 V.vh (bools p.has)
  ha : Rw w B 4 V.va (bools p.ack)
  fl : ∃ a c, V.vl = .slice a p.s.file.length c ∧ Ow w B a p.s.file.length c p.s.file
  rf : Rw w B 22 V.vf V.xf
  ef : Els w B V.xf (p.fwd.map (pkt p.s.id p.s.file))
  rc : Rw w B 3 V.vc (ints p.cks)
  rb : Rw w B 22 V.vb V.xb
  eb : Els w B V.xb (p.bck.map (ackP p.s.id))
  rk : Rw w B 152 V.vk V.xk
  ek : Bls w B V.xk p.aks
  dsep : ∀ k, V.vr.ownBlock = some k → V.vl.ownBlock ≠ some k ∧ V.vs.ownBlock ≠ some k ∧ (∀ v ∈ V.xf, v.ownBlock ≠ some k) ∧ (∀ v ∈ V.xb, v.ownBlock ≠ some k)
  hsep : ∀ k, V.vh.ownBlock = some k → V.va.ownBlock ≠ some k ∧ ∀ v ∈ V.xk, v.ownBlock ≠ some k
  asep : ∀ k, V.va.ownBlock = some k → V.vh.ownBlock ≠ some k ∧ ∀ v ∈ V.xk, v.ownBlock ≠ some k
  bsep : ∀ k, V.vf.ownBlock = some k → V.vb.ownBlock ≠ some k
section
variable {w w' w1 : World} {B gw gs gr : Nat} {V : Wv} {p : Wp}
theorem Wd.ext (h : Wd w B gw gs gr V p) (E : Ext w w') : Wd w' B gw gs gr V p := by
  obtain ⟨a, c, h1, h2⟩ := h.fl
  exact ⟨h.blk.ext E, h.low, h.sn.ext E, h.rv.ext E, h.hh.ext E, h.ha.ext E, ⟨a, c, h1, h2.ext_ E⟩, h.rf.ext E, h.ef.ext E, h.rc.ext E, h.rb.ext E, h.eb.ext E, h.rk.ext E, h.ek.ext E, h.dsep, h.hsep, h.asep, h.bsep⟩
/-- blocks of no type that matters but gw's, and maybe a row's, have turned -/
structure Oth (w : World) (S : List Nat) : Prop where
  t184 : Ty w S 184
  t181 : Ty w S 181
  t5 : Ty w S 5
  t4 : Ty w S 4
theorem Wd.els22 (h : Wd w B gw gs gr V p) : Oth w (V.vf.ownBlock.toList ++ [gw]) := ⟨(Ty.row h.rf (by decide)).app (Ty.blk h.blk (by decide)), (Ty.row h.rf (by decide)).app (Ty.blk h.blk (by decide)), (Ty.row h.rf (by decide)).app (Ty.blk h.blk (by decide)), (Ty.row h.rf (by decide)).app (Ty.blk h.blk (by decide))⟩
theorem frm_set {S : List Nat} (F : Frm S w w1) (g o : Nat) (v : Value) : Frm (S ++ [g]) w (w1.setCell ⟨g, o, none⟩ v) :=
  (F.mono (fun x hx => List.mem_append_left _ hx)).st g o v (.inl (by simp))
/-- a new row of packets -/
theorem Wd.setF (h : Wd w B gw gs gr V p) (F : Frm V.vf.ownBlock.toList w w1) {v : Value} {xs : List Value} {fw : List Nat} (R : Rw w1 B 22 v xs) (hb : v.ownBlock = V.vf.ownBlock ∨ ∃ k, v.ownBlock = some k ∧ w.heap.size ≤ k)
    (E : Els w1 B xs (fw.map (pkt p.s.id p.s.file))) (D : ∀ k, V.vr.ownBlock = some k → ∀ v ∈ xs, v.ownBlock ≠ some k) :
    Wd (w1.setCell ⟨gw, 5, none⟩ v) B gw gs gr { V with vf := v, xf := xs } { p with fwd := fw } := by
  have F2 := frm_set F gw 5 v
  have Fg : Frm [gw] w1 (w1.setCell ⟨gw, 5, none⟩ v) := (Frm.refl [gw] w1).st gw 5 v (.inl (by simp))
  have hgw1 : Blk w1 gw 158 (wCells gs gr V) := h.blk.ty F (Ty.row h.rf (by decide))
  have O := h.els22
  have T152 : Ty w (V.vf.ownBlock.toList ++ [gw]) 152 := (Ty.row h.rf (by decide)).app (Ty.blk h.blk (by decide))
  have T3 : Ty w (V.vf.ownBlock.toList ++ [gw]) 3 := (Ty.row h.rf (by decide)).app (Ty.blk h.blk (by decide))
  have Tg : ∀ t, t ≠ 158 → Ty w1 [gw] t := fun t ht => Ty.blk hgw1 (fun e => ht e.symm)
  obtain ⟨a, c, h1, h2⟩ := h.fl
  refine ⟨hgw1.set_ 5 v, h.low, h.sn.ty F2 O.t184 O.t5, h.rv.ty F2 O.t181 O.t5, h.hh.ty F2 O.t4, h.ha.ty F2 O.t4, ⟨a, c, h1, h2.ty F2 O.t5⟩, R.ty Fg (Tg 22 (by decide)), E.ty Fg (Tg 5 (by decide)), h.rc.ty F2 T3, ?_, h.eb.ty F2 O.t5, h.rk.ty F2 T152, h.ek.ty F2 O.t4, ?_, h.hsep, h.asep, ?_⟩
  · refine h.rb.frm F2 (fun g hg hx => ?_)
    rcases List.mem_append.1 hx with hx | hx
    · rw [Option.mem_toList] at hx
      exact h.bsep g hx hg
    · exact (Ty.blk h.blk (show 158 ≠ 22 by decide)) g hx _ _ (h.rb.blk g hg).2.2.choose_spec
  · intro k hk
    obtain ⟨d1, d2, d3, d4⟩ := h.dsep k hk
    exact ⟨d1, d2, D k hk, d4⟩
  · intro k hk e
    rcases hb with hb | ⟨k2, hb, hlt⟩
    · exact h.bsep k (hb ▸ hk) e
    · have hk' : v.ownBlock = some k := hk
      rw [hb] at hk'
      cases hk'
      have := (h.rb.blk k e).2.1
      omega
/-- a new row of numbers -/
theorem Wd.setC (h : Wd w B gw gs gr V p) (F : Frm V.vc.ownBlock.toList w w1) {v : Value} {ck : List Nat} (R : Rw w1 B 3 v (ints ck)) :
    Wd (w1.setCell ⟨gw, 6, none⟩ v) B gw gs gr { V with vc := v } { p with cks := ck } := by
  have F2 := frm_set F gw 6 v
  have Fg : Frm [gw] w1 (w1.setCell ⟨gw, 6, none⟩ v) := (Frm.refl [gw] w1).st gw 6 v (.inl (by simp))
  have hgw1 : Blk w1 gw 158 (wCells gs gr V) := h.blk.ty F (Ty.row h.rc (by decide))
  have T : ∀ t, t ≠ 158 → t ≠ 3 → Ty w (V.vc.ownBlock.toList ++ [gw]) t := fun t h1 h2 => (Ty.row h.rc (fun e => h2 e.symm)).app (Ty.blk h.blk (fun e => h1 e.symm))
  have Tg : ∀ t, t ≠ 158 → Ty w1 [gw] t := fun t ht => Ty.blk hgw1 (fun e => ht e.symm)
  have T5 := T 5 (by decide) (by decide)
  have T4 := T 4 (by decide) (by decide)
  obtain ⟨a, c, h1, h2⟩ := h.fl
  exact ⟨hgw1.set_ 6 v, h.low, h.sn.ty F2 (T 184 (by decide) (by decide)) T5, h.rv.ty F2 (T 181 (by decide) (by decide)) T5, h.hh.ty F2 T4, h.ha.ty F2 T4, ⟨a, c, h1, h2.ty F2 T5⟩, h.rf.ty F2 (T 22 (by decide) (by decide)), h.ef.ty F2 T5, R.ty Fg (Tg 3 (by decide)), h.rb.ty F2 (T 22 (by decide) (by decide)), h.eb.ty F2 T5, h.rk.ty F2 (T 152 (by decide) (by decide)), h.ek.ty F2 T4, h.dsep, h.hsep, h.asep, h.bsep⟩
/-- a new row of acknowledgements -/
theorem Wd.setB (h : Wd w B gw gs gr V p) (F : Frm V.vb.ownBlock.toList w w1) {v : Value} {xs : List Value} {bk : List (List Bool)} (R : Rw w1 B 22 v xs) (hb : v.ownBlock = V.vb.ownBlock ∨ ∃ k, v.ownBlock = some k ∧ w.heap.size ≤ k)
    (E : Els w1 B xs (bk.map (ackP p.s.id))) (D : ∀ k, V.vr.ownBlock = some k → ∀ v ∈ xs, v.ownBlock ≠ some k) :
    Wd (w1.setCell ⟨gw, 7, none⟩ v) B gw gs gr { V with vb := v, xb := xs } { p with bck := bk } := by
  have F2 := frm_set F gw 7 v
  have Fg : Frm [gw] w1 (w1.setCell ⟨gw, 7, none⟩ v) := (Frm.refl [gw] w1).st gw 7 v (.inl (by simp))
  have hgw1 : Blk w1 gw 158 (wCells gs gr V) := h.blk.ty F (Ty.row h.rb (by decide))
  have T : ∀ t, t ≠ 158 → t ≠ 22 → Ty w (V.vb.ownBlock.toList ++ [gw]) t := fun t h1 h2 => (Ty.row h.rb (fun e => h2 e.symm)).app (Ty.blk h.blk (fun e => h1 e.symm))
  have Tg : ∀ t, t ≠ 158 → Ty w1 [gw] t := fun t ht => Ty.blk hgw1 (fun e => ht e.symm)
  have T5 := T 5 (by decide) (by decide)
  have T4 := T 4 (by decide) (by decide)
  obtain ⟨a, c, h1, h2⟩ := h.fl
  refine ⟨hgw1.set_ 7 v, h.low, h.sn.ty F2 (T 184 (by decide) (by decide)) T5, h.rv.ty F2 (T 181 (by decide) (by decide)) T5, h.hh.ty F2 T4, h.ha.ty F2 T4, ⟨a, c, h1, h2.ty F2 T5⟩, ?_, h.ef.ty F2 T5, h.rc.ty F2 (T 3 (by decide) (by decide)), R.ty Fg (Tg 22 (by decide)), E.ty Fg (Tg 5 (by decide)), h.rk.ty F2 (T 152 (by decide) (by decide)), h.ek.ty F2 T4, ?_, h.hsep, h.asep, ?_⟩
  · refine h.rf.frm F2 (fun g hg hx => ?_)
    rcases List.mem_append.1 hx with hx | hx
    · rw [Option.mem_toList] at hx
      exact h.bsep g hg hx
    · exact (Ty.blk h.blk (show 158 ≠ 22 by decide)) g hx _ _ (h.rf.blk g hg).2.2.choose_spec
  · intro k hk
    obtain ⟨d1, d2, d3, d4⟩ := h.dsep k hk
    exact ⟨d1, d2, d3, D k hk⟩
  · intro k hk e
    rcases hb with hb | ⟨k2, hb, hlt⟩
    · have e' : v.ownBlock = some k := e
      exact h.bsep k hk (hb ▸ e')
    · have e' : v.ownBlock = some k := e
      rw [hb] at e'
      cases e'
      have := (h.rf.blk k hk).2.1
      omega
/-- a new row of marks of acknowledgements -/
theorem Wd.setK (h : Wd w B gw gs gr V p) (F : Frm V.vk.ownBlock.toList w w1) {v : Value} {xs : List Value} {ak : List (List Bool)} (R : Rw w1 B 152 v xs) (E : Bls w1 B xs ak)
    (D : ∀ k, (V.vh.ownBlock = some k ∨ V.va.ownBlock = some k) → ∀ v ∈ xs, v.ownBlock ≠ some k) :
    Wd (w1.setCell ⟨gw, 8, none⟩ v) B gw gs gr { V with vk := v, xk := xs } { p with aks := ak } := by
  have F2 := frm_set F gw 8 v
  have Fg : Frm [gw] w1 (w1.setCell ⟨gw, 8, none⟩ v) := (Frm.refl [gw] w1).st gw 8 v (.inl (by simp))
  have hgw1 : Blk w1 gw 158 (wCells gs gr V) := h.blk.ty F (Ty.row h.rk (by decide))
  have T : ∀ t, t ≠ 158 → t ≠ 152 → Ty w (V.vk.ownBlock.toList ++ [gw]) t := fun t h1 h2 => (Ty.row h.rk (fun e => h2 e.symm)).app (Ty.blk h.blk (fun e => h1 e.symm))
  have Tg : ∀ t, t ≠ 158 → Ty w1 [gw] t := fun t ht => Ty.blk hgw1 (fun e => ht e.symm)
  have T5 := T 5 (by decide) (by decide)
  have T4 := T 4 (by decide) (by decide)
  obtain ⟨a, c, h1, h2⟩ := h.fl
  exact ⟨hgw1.set_ 8 v, h.low, h.sn.ty F2 (T 184 (by decide) (by decide)) T5, h.rv.ty F2 (T 181 (by decide) (by decide)) T5, h.hh.ty F2 T4, h.ha.ty F2 T4, ⟨a, c, h1, h2.ty F2 T5⟩, h.rf.ty F2 (T 22 (by decide) (by decide)), h.ef.ty F2 T5, h.rc.ty F2 (T 3 (by decide) (by decide)), h.rb.ty F2 (T 22 (by decide) (by decide)), h.eb.ty F2 T5, R.ty Fg (Tg 152 (by decide)), E.ty Fg (Tg 4 (by decide)), h.dsep, fun k hk => ⟨(h.hsep k hk).1, D k (.inl hk)⟩, fun k hk => ⟨(h.asep k hk).1, D k (.inr hk)⟩, h.bsep⟩
/-- a packet has come -/
theorem Wd.rcv (h : Wd w B gw gs gr V p) (F : Frm (gr :: V.vr.ownBlock.toList) w w') {v : Value} {r : Rcv} (R : Rv w' B gr v r) (hb : v.ownBlock = V.vr.ownBlock ∨ ∃ k, v.ownBlock = some k ∧ w.heap.size ≤ k) :
    Wd w' B gw gs gr { V with vr := v } { p with r := r } := by
  obtain ⟨da, dc, hd, hO⟩ := h.rv.data
  have T : ∀ t, t ≠ 181 → t ≠ 5 → Ty w (gr :: V.vr.ownBlock.toList) t := fun t h1 h2 => (Ty.blk h.rv.blk (fun e => h1 e.symm)).cons (by rw [hd]; exact Ty.row hO.rw_ (fun e => h2 e.symm))
  have T4 := T 4 (by decide) (by decide)
  have off : ∀ {a : Option Addr} {n c : Nat} {l : List UInt8}, Ow w B a n c l → (∀ k, V.vr.ownBlock = some k → (Value.slice a n c).ownBlock ≠ some k) → Ow w' B a n c l := by
    intro a n c l ho hne
    refine ho.off F (fun k hk hx => ?_)
    rcases List.mem_cons.1 hx with rfl | hx
    · exact ho.rw_.nt h.rv.blk (by decide) hk
    · rw [Option.mem_toList] at hx
      exact hne k hx hk
  have offE : ∀ {xs : List Value} {ls : List (List UInt8)}, Els w B xs ls → (∀ k, V.vr.ownBlock = some k → ∀ v ∈ xs, v.ownBlock ≠ some k) → Els w' B xs ls := by
    intro xs ls he hne
    refine ⟨he.len, fun i l hl => ?_⟩
    obtain ⟨a, c, h1, h2⟩ := he.at_ i l hl
    exact ⟨a, c, h1, off h2 (fun k hk => hne k hk _ (List.mem_of_getElem? h1))⟩
  obtain ⟨a, c, h1, h2⟩ := h.fl
  obtain ⟨sa, sc, h3, h4⟩ := h.sn.file
  refine ⟨h.blk.ty F (T 158 (by decide) (by decide)), h.low, ⟨h.sn.blk.ty F (T 184 (by decide) (by decide)), ⟨sa, sc, h3, off h4 (fun k hk => by rw [← h3]; exact (h.dsep k hk).2.1)⟩, h.sn.len, h.sn.idlt, h.sn.flt, h.sn.low⟩, R, h.hh.ty F T4, h.ha.ty F T4, ⟨a, c, h1, off h2 (fun k hk => by rw [← h1]; exact (h.dsep k hk).1)⟩, h.rf.ty F (T 22 (by decide) (by decide)), offE h.ef (fun k hk => (h.dsep k hk).2.2.1), h.rc.ty F (T 3 (by decide) (by decide)), h.rb.ty F (T 22 (by decide) (by decide)), offE h.eb (fun k hk => (h.dsep k hk).2.2.2), h.rk.ty F (T 152 (by decide) (by decide)), h.ek.ty F T4, ?_, h.hsep, h.asep, h.bsep⟩
  intro k hk
  have hk' : v.ownBlock = some k := hk
  rcases hb with hb | ⟨k2, hb, hlt⟩
  · exact h.dsep k (by rw [← hb]; exact hk')
  · rw [hb] at hk'
    cases hk'
    have lim : ∀ {a : Option Addr} {n c : Nat} {l : List UInt8}, Ow w B a n c l → (Value.slice a n c).ownBlock ≠ some k := fun ho e => by have := (ho.rw_.blk k e).2.1; omega
    have limE : ∀ {xs : List Value} {ls : List (List UInt8)}, Els w B xs ls → ∀ v ∈ xs, v.ownBlock ≠ some k := fun {xs ls} he u hu => by
      obtain ⟨i, hi⟩ := List.getElem?_of_mem hu
      have hlt3 := (List.getElem?_eq_some_iff.1 hi).1
      have hlt2 : i < ls.length := by rw [← he.len]; exact hlt3
      obtain ⟨a, c, h1, h2⟩ := he.at_ i ls[i] (List.getElem?_eq_getElem hlt2)
      rw [hi] at h1
      simp only [Option.some.injEq] at h1
      rw [h1]
      exact lim h2
    exact ⟨by rw [h1]; exact lim h2, by rw [h3]; exact lim h4, limE h.ef, limE h.eb⟩
/-- an acknowledgement has come -/
theorem Wd.snd (h : Wd w B gw gs gr V p) (F : Frm [gs] w w') {s : Snd} (S : Sn w' B gs V.vs s) (h1 : s.id = p.s.id) (h2 : s.file = p.s.file) : Wd w' B gw gs gr V { p with s := s } := by
  have T : ∀ t, t ≠ 184 → Ty w [gs] t := fun t ht => Ty.blk h.sn.blk (fun e => ht e.symm)
  obtain ⟨a, c, h3, h4⟩ := h.fl
  refine ⟨h.blk.ty F (T 158 (by decide)), h.low, S, h.rv.ty F (T 181 (by decide)) (T 5 (by decide)), h.hh.ty F (T 4 (by decide)), h.ha.ty F (T 4 (by decide)), ⟨a, c, ?_, ?_⟩, h.rf.ty F (T 22 (by decide)), ?_, h.rc.ty F (T 3 (by decide)), h.rb.ty F (T 22 (by decide)), ?_, h.rk.ty F (T 152 (by decide)), h.ek.ty F (T 4 (by decide)), h.dsep, h.hsep, h.asep, h.bsep⟩
  · show V.vl = .slice a s.file.length c
    rw [h2]; exact h3
  · show Ow w' B a s.file.length c s.file
    rw [h2]; exact h4.ty F (T 5 (by decide))
  · show Els w' B V.xf (p.fwd.map (pkt s.id s.file))
    rw [h1, h2]; exact h.ef.ty F (T 5 (by decide))
  · show Els w' B V.xb (p.bck.map (ackP s.id))
    rw [h1]; exact h.eb.ty F (T 5 (by decide))
/-- one mark of what has come -/
theorem Wd.hasSet (h : Wd w B gw gs gr V p) {g off n c : Nat} (hv : V.vh = .slice (some ⟨g, off, none⟩) n c) (k : Nat) (hk : k < p.has.length) (b : Bool) :
    Wd (w.setCell ⟨g, off + k, none⟩ (.bool b)) B gw gs gr V { p with has := p.has.set k b } := by
  have hg : V.vh.ownBlock = some g := by rw [hv]; rfl
  have F : Frm [g] w (w.setCell ⟨g, off + k, none⟩ (.bool b)) := (Frm.refl [g] w).st g _ _ (.inl (by simp))
  have T : ∀ t, t ≠ 4 → Ty w [g] t := fun t ht => by have := Ty.row h.hh (fun e => ht e.symm); rw [hg] at this; exact this
  have hR := h.hh
  rw [hv] at hR
  have hR2 := hR.set k (by rw [bools_len]; exact hk) (.bool b)
  rw [bools_set, ← hv] at hR2
  obtain ⟨a, c, h3, h4⟩ := h.fl
  have ns : ∀ {v : Value} {l : List Bool}, Rw w B 4 v (bools l) → v.ownBlock ≠ some g → Rw (w.setCell ⟨g, off + k, none⟩ (.bool b)) B 4 v (bools l) := fun hr hne => hr.frm F (fun j hj hx => by
    simp only [List.mem_singleton] at hx
    subst hx
    exact hne hj)
  exact ⟨h.blk.ty F (T 158 (by decide)), h.low, h.sn.ty F (T 184 (by decide)) (T 5 (by decide)), h.rv.ty F (T 181 (by decide)) (T 5 (by decide)), hR2, ns h.ha (h.hsep g hg).1, ⟨a, c, h3, h4.ty F (T 5 (by decide))⟩, h.rf.ty F (T 22 (by decide)), h.ef.ty F (T 5 (by decide)), h.rc.ty F (T 3 (by decide)), h.rb.ty F (T 22 (by decide)), h.eb.ty F (T 5 (by decide)), h.rk.ty F (T 152 (by decide)),
    ⟨h.ek.len, fun i l hl => by obtain ⟨v, e1, e2⟩ := h.ek.at_ i l hl; exact ⟨v, e1, ns e2 ((h.hsep g hg).2 v (List.mem_of_getElem? e1))⟩⟩, h.dsep, h.hsep, h.asep, h.bsep⟩
/-- one mark of what was acknowledged -/
theorem Wd.ackSet (h : Wd w B gw gs gr V p) {g off n c : Nat} (hv : V.va = .slice (some ⟨g, off, none⟩) n c) (k : Nat) (hk : k < p.ack.length) (b : Bool) :
    Wd (w.setCell ⟨g, off + k, none⟩ (.bool b)) B gw gs gr V { p with ack := p.ack.set k b } := by
  have hg : V.va.ownBlock = some g := by rw [hv]; rfl
  have F : Frm [g] w (w.setCell ⟨g, off + k, none⟩ (.bool b)) := (Frm.refl [g] w).st g _ _ (.inl (by simp))
  have T : ∀ t, t ≠ 4 → Ty w [g] t := fun t ht => by have := Ty.row h.ha (fun e => ht e.symm); rw [hg] at this; exact this
  have hR := h.ha
  rw [hv] at hR
  have hR2 := hR.set k (by rw [bools_len]; exact hk) (.bool b)
  rw [bools_set, ← hv] at hR2
  obtain ⟨a, c, h3, h4⟩ := h.fl
  have ns : ∀ {v : Value} {l : List Bool}, Rw w B 4 v (bools l) → v.ownBlock ≠ some g → Rw (w.setCell ⟨g, off + k, none⟩ (.bool b)) B 4 v (bools l) := fun hr hne => hr.frm F (fun j hj hx => by
    simp only [List.mem_singleton] at hx
    subst hx
    exact hne hj)
  exact ⟨h.blk.ty F (T 158 (by decide)), h.low, h.sn.ty F (T 184 (by decide)) (T 5 (by decide)), h.rv.ty F (T 181 (by decide)) (T 5 (by decide)), ns h.hh (h.asep g hg).1, hR2, ⟨a, c, h3, h4.ty F (T 5 (by decide))⟩, h.rf.ty F (T 22 (by decide)), h.ef.ty F (T 5 (by decide)), h.rc.ty F (T 3 (by decide)), h.rb.ty F (T 22 (by decide)), h.eb.ty F (T 5 (by decide)), h.rk.ty F (T 152 (by decide)),
    ⟨h.ek.len, fun i l hl => by obtain ⟨v, e1, e2⟩ := h.ek.at_ i l hl; exact ⟨v, e1, ns e2 ((h.asep g hg).2 v (List.mem_of_getElem? e1))⟩⟩, h.dsep, h.hsep, h.asep, h.bsep⟩
end
/-- what holds of a play's world at every time -/
structure Wok (p : Wp) (id : Nat) (file : List UInt8) : Prop where
  sid : p.s.id = id
  sfile : p.s.file = file
  alen : p.s.acked.length = 1024
  rof : p.r.of id file
  has : p.has = p.r.has.take (chunksT file.length)
  ack : p.ack = p.s.acked.take (chunksT file.length)
  cks : p.cks = p.fwd
  flt : ∀ i ∈ p.fwd, i < chunksT file.length
  fle : p.fwd.length ≤ 207
  aks : p.aks = p.bck.map (·.take (chunksT file.length))
  bok : ∀ m ∈ p.bck, m.length = 1024 ∧ ∀ k, gb m k = true → gb p.r.has k = true
  ble : p.bck.length ≤ 100
  sub : ∀ k, gb p.s.acked k = true → gb p.r.has k = true
  idl : id < 4294967296
  fll : file.length ≤ 65535
theorem gb_take (l : List Bool) (n k : Nat) (h : k < n) : gb (l.take n) k = gb l k := by
  unfold gb
  rw [List.getElem?_take, if_pos h]
theorem take_len {l : List Bool} (h : l.length = 1024) {n : Nat} (hn : n ≤ 1024) : (l.take n).length = n := by rw [List.length_take]; omega
end Go.Proofs.Ytknllmcpogoeoaa
