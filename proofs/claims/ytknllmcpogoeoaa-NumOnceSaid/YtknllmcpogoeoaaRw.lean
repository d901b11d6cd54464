/- Appends that are guarded. -/
import Derived.Test.YtknllmcpogoeoaaRg
import Derived.BigFrame
namespace Go.Proofs.Ytknllmcpogoeoaa
open Go.RowKit
set_option linter.unusedVariables false
set_option linter.unusedSimpArgs false
/-- append(s, x...) on the call's own bytes where the operation is guarded -/
theorem wp_appW {ops : Array Oper} {rest : List Oper} {act : Act} {w : World} {Q : Exit → Act → World → Prop} {dst : Option Tmp} {s x : Operand} {ty : TypeId} {pos : String} {af : Array Edge} {gd : Option (Nat × Bool)}
    (B : Nat) {a : Option Addr} {n c : Nat} {l : List UInt8} {ax : Option Addr} {m cx : Nat} {r : List UInt8}
    (N : Nat) (L : List UInt8) (hw : Region.wanted ⟨dst, .call { callee := .builtin .append, args := #[s, x], argTypes := #[22, 22] }, ty, pos, af, gd⟩ (yielded ops act.tmps) = true) (hs : act.eval s = .slice a n c) (hx : act.eval x = .slice ax m cx)
    (ho : Ow w B a n c l) (hb : Bs w ax m r) (hn : ax = none → cx = 0) (hN : N = n + m) (hL : L = l ++ r) (hbd : N ≤ 140737488355328) (hB : B ≤ w.heap.size)
    (hK : ∀ a' c' w', Ow w' B a' N c' L → w.grownBy w' (Value.slice a n c).ownBlock → wpList Try.prog ops Q rest (act.put dst (.slice a' N c')) w') :
    wpList Try.prog ops Q (⟨dst, .call { callee := .builtin .append, args := #[s, x], argTypes := #[22, 22] }, ty, pos, af, gd⟩ :: rest) act w :=
  BigFrame.wpList_want hw fun K hk => wpO_app (ty := 22) s x rfl B N L hs hx ho hb hn hN hL hbd hB (fun a' c' w' h1 h2 => hk _ _ (hK a' c' w' h1 h2))
end Go.Proofs.Ytknllmcpogoeoaa
