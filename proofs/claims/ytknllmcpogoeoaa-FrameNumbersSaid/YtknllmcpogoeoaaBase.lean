/- Common words for this seat's walks: byte lists, slices that read as bytes, slices of bytes that the call itself made, and the laws for append and conversions over them. -/
import Derived.Test.YtknllmcpogoeoaaRows
import Derived.WalkKit
import Derived.ProofKit
import Derived.OpenShut
import Derived.JoinedCond
import Derived.Outline
import Derived.Deep.QuietTactic
import Derived.Deep.RegionLaw
import Derived.Deep.RegionHeld3
import Derived.OwnWalk
import Derived.BigQuiet
import Derived.Lib.Hide
import Derived.Laws.AppendOwnNone
import Derived.WalkSmall
namespace Go.Proofs.Ytknllmcpogoeoaa
open Go.RowKit
set_option linter.unusedVariables false
set_option linter.unusedSimpArgs false

/-- byte k of a list, as the walk's number -/
def nb (l : List UInt8) (k : Nat) : Int := ((l[k]?.getD 0).toNat : Int)
theorem nb_rng (l : List UInt8) (k : Nat) : 0 ≤ nb l k ∧ nb l k ≤ 255 := by
  unfold nb
  have := (l[k]?.getD 0).toNat_lt
  omega
def u8s (l : List UInt8) : List Value := l.map fun x => .int .u8 (x.toNat : Int)
theorem u8s_len (l : List UInt8) : (u8s l).length = l.length := by simp [u8s]
theorem u8s_app (l r : List UInt8) : u8s (l ++ r) = u8s l ++ u8s r := by simp [u8s]
theorem u8s_get (l : List UInt8) (k : Nat) (h : k < l.length) : (u8s l)[k]? = some (.int .u8 (nb l k)) := by
  simp [u8s, nb, h]
theorem u8s_one (l : List UInt8) : ∀ u ∈ u8s l, u.oneCell' = true := by
  intro u hu
  obtain ⟨_, _, rfl⟩ := List.mem_map.1 hu
  rfl

/-- the slice at a with len elements reads as the bytes l -/
structure Bs (w : World) (a : Option Addr) (len : Nat) (l : List UInt8) : Prop where
  leng : l.length = len
  cell : ∀ k, k < len → ∃ b off, a = some ⟨b, off, none⟩ ∧ w.cell? ⟨b, off + k, none⟩ = some (.int .u8 (nb l k))

theorem Bs.at {w : World} {a : Option Addr} {len : Nat} {l : List UInt8} (h : Bs w a len l) (h0 : 0 < len) :
    ∃ b off, a = some ⟨b, off, none⟩ ∧ ∀ k, k < len → w.cell? ⟨b, off + k, none⟩ = some (.int .u8 (nb l k)) := by
  obtain ⟨b, off, rfl, _⟩ := h.cell 0 h0
  refine ⟨b, off, rfl, fun k hk => ?_⟩
  obtain ⟨b', off', e, hc⟩ := h.cell k hk
  simp only [Option.some.injEq, Addr.mk.injEq] at e
  obtain ⟨rfl, rfl, _⟩ := e
  exact hc

theorem Bs.nil (w : World) (a : Option Addr) : Bs w a 0 [] := ⟨rfl, fun k hk => by omega⟩

theorem Bs.below {w w' : World} {a : Option Addr} {len : Nat} {l : List UInt8} (h : Bs w a len l) {B : Nat} (hb : Below B w w') (hB : w.heap.size ≤ B) : Bs w' a len l :=
  ⟨h.leng, fun k hk => by
    obtain ⟨b, off, e, hc⟩ := h.cell k hk
    refine ⟨b, off, e, ?_⟩
    have hbl : b < w.heap.size := World.block_lt_of_cell? w _ hc
    rw [hb.cell (p := ⟨b, off + k, none⟩) (show b < B by omega)]
    exact hc⟩

theorem Bs.drew {w : World} {a : Option Addr} {len : Nat} {l : List UInt8} (h : Bs w a len l) : Bs w.drew a len l := ⟨h.leng, h.cell⟩
theorem Bs.drewN {w : World} {a : Option Addr} {len : Nat} {l : List UInt8} (h : Bs w a len l) (n : Nat) : Bs (w.drewN n) a len l := ⟨h.leng, h.cell⟩
/-- the address behind a cut -/
theorem cut_addr {b off cap lo : Nat} {b' off' : Nat} (e : some (⟨b, off, none⟩ : Addr) = some ⟨b', off', none⟩) (h : ¬ cap = lo) :
    (if cap = lo then some (⟨b, off, none⟩ : Addr) else some ⟨b, off + lo, none⟩) = some ⟨b', off' + lo, none⟩ := by
  simp only [Option.some.injEq, Addr.mk.injEq] at e
  rw [if_neg h, e.1, e.2.1]
/-- the sub-slice of n elements from lo on -/
theorem Bs.sub {w : World} {a : Option Addr} {len : Nat} {l : List UInt8} (h : Bs w a len l) (lo n : Nat) (h2 : lo + n ≤ len) {a' : Option Addr}
    (ha : ∀ b off, a = some ⟨b, off, none⟩ → 0 < n → a' = some ⟨b, off + lo, none⟩) : Bs w a' n ((l.drop lo).take n) := by
  refine ⟨by simp [h.leng]; omega, fun k hk => ?_⟩
  obtain ⟨b, off, e, hc⟩ := h.cell (lo + k) (by omega)
  refine ⟨b, off + lo, ha b off e (by omega), ?_⟩
  rw [Nat.add_assoc, hc]
  simp [nb, hk]

/-- the call's own slice of bytes -/
abbrev Ow (w : World) (B : Nat) (a : Option Addr) (len cap : Nat) (l : List UInt8) : Prop := w.ownsRow B 5 1 (.slice a len cap) len (u8s l)
theorem Ow.leng {w : World} {B : Nat} {a : Option Addr} {len cap : Nat} {l : List UInt8} (h : Ow w B a len cap l) : l.length = len := by
  have := h.1
  simpa [u8s_len] using this
theorem Ow.bs {w : World} {B : Nat} {a : Option Addr} {len cap : Nat} {l : List UInt8} (h : Ow w B a len cap l) : Bs w a len l := by
  have hl := h.leng
  refine ⟨hl, fun k hk => ?_⟩
  obtain ⟨_, h2⟩ := h
  rcases h2 with ⟨e, h0⟩ | ⟨g, cap', cur, e, hg, hh, hn, hm, hs, ht⟩
  · omega
  · simp only [Value.slice.injEq] at e
    obtain ⟨rfl, _, rfl⟩ := e
    refine ⟨g, 0, rfl, ?_⟩
    rw [Nat.zero_add, cell_of_row w g k cur 5 (0, 0) hh]
    have hk' := u8s_get l k (by omega)
    rw [← ht, List.getElem?_take] at hk'
    rw [if_pos (by omega)] at hk'
    simpa using hk'
theorem Ow.lt {w : World} {B : Nat} {a : Option Addr} {len cap : Nat} {l : List UInt8} (h : Ow w B a len cap l) {b off : Nat} (e : a = some ⟨b, off, none⟩) : B ≤ b ∧ b < w.heap.size :=
  World.ownsRow.lt h b (by rw [e]; rfl)

theorem bcell {W w1 : World} {B : Nat} (hb : Below B W w1) : (∀ b o, b < B → w1.cell? ⟨b, o, none⟩ = W.cell? ⟨b, o, none⟩) ∧ (∀ b o, b < B → w1.frozen? ⟨b, o, none⟩ = W.frozen? ⟨b, o, none⟩) :=
  ⟨fun b o h => hb.cell (p := ⟨b, o, none⟩) h, fun b o h => hb.frozen (p := ⟨b, o, none⟩) h⟩

theorem info5 : (Try.prog.info? 5).map (fun i => (i.zero, i.size, i.bytes)) = some (some (.int .u8 0), 1, 1) := by kernel_rfl

/-- APPEND OF BYTES to the call's own slice, whatever the source: one run equation. -/
theorem run_app (w : World) (ty : TypeId) (B : Nat) (a : Option Addr) (n c : Nat) (l : List UInt8) (ax : Option Addr) (m cx : Nat) (r : List UInt8)
    (ho : Ow w B a n c l) (hb : Bs w ax m r) (hbd : n + m ≤ 140737488355328) (hB : B ≤ w.heap.size) (hx : ax = none → cx = 0) :
    ∃ a' c' w', (Builtin.append_ #[22, 22] ty #[.slice a n c, .slice ax m cx]).run Try.prog w = .ok (.slice a' (n + m) c') w' ∧ Ow w' B a' (n + m) c' (l ++ r) ∧
      w.grownBy w' (Value.slice a n c).ownBlock := by
  obtain ⟨i0, hi, hz0, hz1, hz2⟩ := info_parts info5
  have key : ∀ ad, ax = some ad ∨ (m = 0 ∧ ax = some ad) → (∀ j u, (u8s r)[j]? = some u → w.cell? (ad.add j) = some u) := by
    intro ad had j u hu
    have had : ax = some ad := by rcases had with h | h; exact h; exact h.2
    have hj : j < r.length := by
      have := (List.getElem?_eq_some_iff.1 hu).1
      simpa [u8s_len] using this
    obtain ⟨b, off, e, hc⟩ := hb.cell j (by rw [← hb.leng]; exact hj)
    rw [e] at had
    obtain rfl := Option.some.inj had
    rw [Addr.add_lit, hc]
    rw [u8s_get r j hj] at hu
    exact hu
  have fin : ∀ (v' : Value) (w' : World), w'.ownsRow B 5 1 v' (n + m) (u8s l ++ u8s r) → ∃ a' c', v' = .slice a' (n + m) c' := by
    intro v' w' h
    rcases h.2 with ⟨rfl, h0⟩ | ⟨g, cap, cur, rfl, _⟩
    · exact ⟨none, 0, by rw [h0]⟩
    · exact ⟨_, _, rfl⟩
  cases ax with
  | some ad =>
    obtain ⟨v', w', hr, h1, h2, h3⟩ := run_append_own (P := Try.prog) w B 22 ty 5 i0 (.int .u8 0) 1 1 Try.underlying22 hi hz0 hz1 hz2 rfl (by decide) (.slice a n c) n (u8s l) ho ad m cx (u8s r)
      (by rw [u8s_len, hb.leng]; simp) (key ad (.inl rfl)) (u8s_one r) (by unfold maxLen; omega) (by omega) hB
    obtain ⟨a', c', rfl⟩ := fin _ _ h1
    exact ⟨a', c', w', hr, by unfold Ow; rw [u8s_app]; exact h1, h2⟩
  | none =>
    have hm : m = 0 := by
      by_cases h : m = 0
      · exact h
      · obtain ⟨_, _, e, _⟩ := hb.cell 0 (by omega)
        cases e
    subst hm
    have hcx := hx rfl
    subst hcx
    have hr0 : r = [] := List.eq_nil_of_length_eq_zero (by rw [hb.leng])
    subst hr0
    refine ⟨a, c, w, ?_, by simpa using ho, World.grownBy.refl _ _⟩
    have hrun := run_append_owned_none (P := Try.prog) w B 22 ty 5 i0 1 Try.underlying22 hi (.slice a n c) n (u8s l) ho
    simpa using hrun
section
variable {ops : Array Oper} {rest : List Oper} {act : Act} {w : World} {Q : Exit → Act → World → Prop}
/-- The operation append(s, x...) on the call's own bytes, in the walk. -/
theorem wp_app {dst : Option Tmp} {s x : Operand} {ty : TypeId} {pos : String} {af : Array Edge}
    (B : Nat) {a : Option Addr} {n c : Nat} {l : List UInt8} {ax : Option Addr} {m cx : Nat} {r : List UInt8}
    (N : Nat) (L : List UInt8) (hs : act.eval s = .slice a n c) (hx : act.eval x = .slice ax m cx)
    (ho : Ow w B a n c l) (hb : Bs w ax m r) (hn : ax = none → cx = 0) (hN : N = n + m) (hL : L = l ++ r) (hbd : N ≤ 140737488355328) (hB : B ≤ w.heap.size)
    (hK : ∀ a' c' w', Ow w' B a' N c' L → w.grownBy w' (Value.slice a n c).ownBlock → wpList Try.prog ops Q rest (act.put dst (.slice a' N c')) w') :
    wpList Try.prog ops Q (⟨dst, .call { callee := .builtin .append, args := #[s, x], argTypes := #[22, 22] }, ty, pos, af, none⟩ :: rest) act w := by
  subst hN hL
  refine wpList_plain rfl fun K hK' => ?_
  obtain ⟨a', c', w', hr, h1, h2⟩ := run_app w ty B a n c l ax m cx r ho hb hbd hB hn
  unfold Oper.wp
  simp only [execOp, resolve, invoke, builtin, Sem.run_bind, Sem.run_pure, Result.andThen_ok, List.map_toArray, List.map_cons, List.map_nil, hs, hx, hr]
  exact hK' _ _ (hK a' c' w' h1 h2)
/-- The same as one step of a region that draws its order. -/
theorem step_app {o : Oper} {K : Act → World → Prop} {E : Prop} (hg : o.guard = none) (s x : Operand)
    (hop : o.op = .call { callee := .builtin .append, args := #[s, x], argTypes := #[22, 22] })
    (B : Nat) {a : Option Addr} {n c : Nat} {l : List UInt8} {ax : Option Addr} {m cx : Nat} {r : List UInt8}
    (N : Nat) (L : List UInt8) (hs : act.eval s = .slice a n c) (hx : act.eval x = .slice ax m cx)
    (ho : Ow w B a n c l) (hb : Bs w ax m r) (hn : ax = none → cx = 0) (hN : N = n + m) (hL : L = l ++ r) (hbd : N ≤ 140737488355328) (hB : B ≤ w.heap.size)
    (hK : ∀ a' c' w', Ow w' B a' N c' L → w.grownBy w' (Value.slice a n c).ownBlock → K (act.put o.dst (.slice a' N c')) w') :
    if Region.wanted o (yielded ops act.tmps) = true then Oper.wp Try.prog o act w K Q else E := by
  subst hN hL
  rw [if_pos (by simp [Region.wanted, hg])]
  obtain ⟨a', c', w', hr, h1, h2⟩ := run_app w o.type B a n c l ax m cx r ho hb hbd hB hn
  unfold Oper.wp
  simp only [execOp, hop, resolve, invoke, builtin, Sem.run_bind, Sem.run_pure, Result.andThen_ok, List.map_toArray, List.map_cons, List.map_nil, hs, hx, hr]
  exact hK a' c' w' h1 h2
/-- make([]byte, 0, n) -/
theorem wp_make {dst : Option Tmp} {lo co : Operand} {ty : TypeId} {pos : String} {af : Array Edge}
    (B n : Nat) {C : Int} (hl : act.eval lo = .int .i64 0) (hc : act.eval co = .int .i64 C) (hC : C = (n : Int)) (hn : n ≤ 281474976710656) (hB : B ≤ w.heap.size)
    (hK : ∀ w', Ow w' B (some ⟨w.heap.size, 0, none⟩) 0 n [] → w.grownBy w' none → wpList Try.prog ops Q rest (act.put dst (.slice (some ⟨w.heap.size, 0, none⟩) 0 n)) w') :
    wpList Try.prog ops Q (⟨dst, .makeSlice 22 lo co, ty, pos, af, none⟩ :: rest) act w := by
  obtain ⟨i0, hi, hz0, hz1, hz2⟩ := info_parts info5
  exact wpList_make_own w rfl lo co 22 rfl B 5 i0 (.int .u8 0) 1 Try.underlying22 hi hz0 hz1 .i64 .i64 C n hl hc hC (by rw [hz2]; omega) (by unfold maxLen; omega) hB (fun w' h1 h2 => hK w' h1 h2)
end
theorem Ow.drew {w : World} {B : Nat} {a : Option Addr} {len cap : Nat} {l : List UInt8} (h : Ow w B a len cap l) : Ow w.drew B a len cap l := h
theorem Ow.kept {w w' : World} {B : Nat} {a : Option Addr} {len cap : Nat} {l : List UInt8} {row : Option Nat} (h : Ow w B a len cap l) (hg : w.grownBy w' row) (hne : ∀ b off, a = some ⟨b, off, none⟩ → some b ≠ row) : Ow w' B a len cap l := by
  refine World.ownsRow.kept h hg ?_
  rcases h.2 with ⟨e, _⟩ | ⟨g, cap', cur, e, _⟩
  · left; rw [e]; rfl
  · right
    rw [e]
    simp only [Value.slice.injEq] at e
    exact hne g 0 e.1
theorem Bs.kept {w w' : World} {a : Option Addr} {len : Nat} {l : List UInt8} {row : Option Nat} (h : Bs w a len l) (hg : w.grownBy w' row) (hne : ∀ b off, a = some ⟨b, off, none⟩ → some b ≠ row) : Bs w' a len l :=
  ⟨h.leng, fun k hk => by
    obtain ⟨b, off, e, hc⟩ := h.cell k hk
    exact ⟨b, off, e, hg.cell hc (hne b off e)⟩⟩
theorem Bs.alloc {w : World} {a : Option Addr} {len : Nat} {l : List UInt8} (h : Bs w a len l) (o : Obj) : Bs (w.alloc o) a len l := h.kept (World.grownBy_alloc w o none) (fun _ _ _ => by simp)
/-- a new block -/
theorem Bs.new (w : World) (cs : Array Value) (n : Nat) (l : List UInt8) (hl : l.length = n) (h : cs.toList = u8s l) : Bs (w.alloc (.cells cs 5)) (some ⟨w.heap.size, 0, none⟩) n l := by
  refine ⟨hl, fun k hk => ⟨w.heap.size, 0, rfl, ?_⟩⟩
  rw [World.cell?_alloc_at _ _ _ _ rfl, ← Array.getElem?_toList, h, Nat.zero_add]
  exact u8s_get l k (by omega)
theorem Ow.new (w : World) (cs : Array Value) (B n : Nat) (l : List UInt8) (hl : l.length = n) (h : cs.toList = u8s l) (hB : B ≤ w.heap.size) (hn : n ≤ 140737488355328) : Ow (w.alloc (.cells cs 5)) B (some ⟨w.heap.size, 0, none⟩) n n l := by
  refine ⟨by rw [u8s_len, hl]; simp, .inr ⟨w.heap.size, n, cs, rfl, hB, heap_alloc_new w _, Nat.le_refl _, by unfold maxLen; omega, ?_, ?_⟩⟩
  · rw [← Array.length_toList, h, u8s_len, hl]; simp
  · rw [h]; exact List.take_of_length_le (by rw [u8s_len, hl]; simp)
/-- the world behind an append to the call's own slice -/
theorem Ow.below {w0 w w' : World} {B B0 : Nat} {a : Option Addr} {len cap : Nat} {l : List UInt8} (h : Ow w B a len cap l) (hb : Below B0 w0 w) (hg : w.grownBy w' (Value.slice a len cap).ownBlock) (hB : B0 ≤ B) (hB' : B0 ≤ w.heap.size) : Below B0 w0 w' :=
  hb.grown hg hB' (fun k hk => Nat.le_trans hB (World.ownsRow.lt h k hk).1)
theorem Ow.mono {w : World} {B B' : Nat} {a : Option Addr} {len cap : Nat} {l : List UInt8} (h : Ow w B a len cap l) (hB : B' ≤ B) : Ow w B' a len cap l := by
  refine ⟨h.1, ?_⟩
  rcases h.2 with h | ⟨g, cap', cur, e, hg, r⟩
  · exact .inl h
  · exact .inr ⟨g, cap', cur, e, by omega, r⟩
/-- two cells of one block -/
def Two (b : Nat) (x y : Value) (w : World) : Prop := w.cell? ⟨b, 0, none⟩ = some x ∧ w.cell? ⟨b, 1, none⟩ = some y
theorem two_kept {b : Nat} {x y : Value} {w w' : World} {row : Option Nat} (h : w.cell? ⟨b, 0, none⟩ = some x ∧ w.cell? ⟨b, 1, none⟩ = some y) (hg : w.grownBy w' row) (hne : ∀ k, row = some k → b + 1 ≤ k) :
    w'.cell? ⟨b, 0, none⟩ = some x ∧ w'.cell? ⟨b, 1, none⟩ = some y := by
  have hr : some b ≠ row := fun e => by have := hne b e.symm; omega
  exact ⟨hg.cell (a := ⟨b, 0, none⟩) h.1 hr, hg.cell (a := ⟨b, 1, none⟩) h.2 hr⟩
end Go.Proofs.Ytknllmcpogoeoaa
