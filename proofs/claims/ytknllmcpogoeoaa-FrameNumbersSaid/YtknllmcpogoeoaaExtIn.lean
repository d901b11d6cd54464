/- The laws for append inside a fence: for the walk of an iterator. -/
import Derived.Test.YtknllmcpogoeoaaExt
import Derived.RangeFuncIn
import Derived.RangeFuncRecord
import Derived.RangeFuncSeq
import Derived.OwnWalkIn
import Derived.TacticsInMore
import Derived.LoopIn
namespace Go.Proofs.Ytknllmcpogoeoaa
open Go.RowKit
set_option linter.unusedVariables false
set_option linter.unusedSimpArgs false
section
variable {F : Fence} {n0 : Nat} {ops : Array Oper} {rest : List Oper} {act : Act} {w : World} {Q : Exit → Act → World → Prop}
theorem wpi_app {dst : Option Tmp} {s x : Operand} {ty : TypeId} {pos : String} {af : Array Edge}
    (B : Nat) {a : Option Addr} {n c : Nat} {l : List UInt8} {ax : Option Addr} {m cx : Nat} {r : List UInt8}
    (N : Nat) (L : List UInt8) (hs : act.eval s = .slice a n c) (hx : act.eval x = .slice ax m cx)
    (ho : Ow w B a n c l) (hb : Bs w ax m r) (hn : ax = none → cx = 0) (hN : N = n + m) (hL : L = l ++ r) (hbd : N ≤ 140737488355328) (hB : B ≤ w.heap.size)
    (hK : ∀ a' c' w', Ow w' B a' N c' L → w.grownBy w' (Value.slice a n c).ownBlock → wpListIn F n0 Try.prog ops Q rest (act.put dst (.slice a' N c')) w') :
    wpListIn F n0 Try.prog ops Q (⟨dst, .call { callee := .builtin .append, args := #[s, x], argTypes := #[22, 22] }, ty, pos, af, none⟩ :: rest) act w := by
  subst hN hL
  refine wpListIn_plain rfl fun K hK' => ?_
  obtain ⟨a', c', w', hr, h1, h2⟩ := run_app w ty B a n c l ax m cx r ho hb hbd hB hn
  unfold Oper.wpIn
  refine ⟨?_, ?_⟩
  · simp [Oper.about, resolve, Target.leads, Sem.run_pure]
  · rw [Oper.semAt_plain F _ _ (by intro c hc'; cases hc')]
    simp only [execOp, resolve, invoke, builtin, Sem.run_bind, Sem.run_pure, Result.andThen_ok, List.map_toArray, List.map_cons, List.map_nil, hs, hx, hr]
    exact hK' _ _ (hK a' c' w' h1 h2)
theorem wpi_appE {t e size bytes : Nat} {z : Value} (T : ElemT t e size bytes z) {dst : Option Tmp} {s x : Operand} {ty : TypeId} {pos : String} {af : Array Edge}
    (B : Nat) {a : Option Addr} {n c g m cx : Nat} {xs : List Value} (news : List Value)
    (N : Nat) (hs : act.eval s = .slice a n c) (hx : act.eval x = .slice (some ⟨g, 0, none⟩) m cx)
    (ho : w.ownsRow B e size (.slice a n c) n xs) (hl : news.length = m * size) (hnews : ∀ j u, news[j]? = some u → w.cell? ⟨g, j, none⟩ = some u) (h1 : ∀ u ∈ news, u.oneCell' = true)
    (hN : N = n + m) (hbd : N ≤ 9223372036854775807) (hby : N * bytes ≤ 140737488355328) (hB : B ≤ w.heap.size) (hm : 0 < m)
    (hK : ∀ g' c' w', w'.ownsRow B e size (.slice (some ⟨g', 0, none⟩) N c') N (xs ++ news) → w.grownBy w' (Value.slice a n c).ownBlock → wpListIn F n0 Try.prog ops Q rest (act.put dst (.slice (some ⟨g', 0, none⟩) N c')) w') :
    wpListIn F n0 Try.prog ops Q (⟨dst, .call { callee := .builtin .append, args := #[s, x], argTypes := #[t, t] }, ty, pos, af, none⟩ :: rest) act w := by
  subst hN
  refine wpListIn_plain rfl fun K hK' => ?_
  obtain ⟨g', c', w', hr, h2, h3⟩ := run_appE T w ty B a n c xs g m cx news ho hl hnews h1 hbd hby hB hm
  unfold Oper.wpIn
  refine ⟨?_, ?_⟩
  · simp [Oper.about, resolve, Target.leads, Sem.run_pure]
  · rw [Oper.semAt_plain F _ _ (by intro c hc'; cases hc')]
    simp only [execOp, resolve, invoke, builtin, Sem.run_bind, Sem.run_pure, Result.andThen_ok, List.map_toArray, List.map_cons, List.map_nil, hs, hx, hr]
    exact hK' _ _ (hK g' c' w' h2 h3)
end
end Go.Proofs.Ytknllmcpogoeoaa
