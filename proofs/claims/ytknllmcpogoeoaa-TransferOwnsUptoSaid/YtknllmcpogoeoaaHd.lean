/- What the program's head says of its making, reckoned once: by its first three words alone. -/
import Derived.Test.YtknllmcpogoeoaaK
namespace Go.Proofs.Ytknllmcpogoeoaa
open Go.ChangeShapes Go.WideShapes Go.ChangeAt Go.RowKit
set_option maxRecDepth 100000
def headA : List Char := ['h', 'a', 'r', 'n', 'e', 's', 's']
def headB : List Char := ['7', 'a', 'd', '6', '0', 'f', 'b', '1', '8', 'e', 'b', '3', '7', '9', '4', '0', 'd', '6', 'd', '8', '3', '4', 'd', 'e', 'b', '0', '4', 'b', '9', 'f', 'a', 'a', '0', 'd', 'e', 'd', '7', 'c', '0', '4', 'b', '5', '7', '8', 'd', '9', 'c', 'e', '9', 'e', '9', '8', '1', '2', '0', '8', '4', '4', '2', '2', '1', '2', 'b', '8']
def headC : List Char := ['c', 'u', 't']
def headR : List Char := ['a', 't', ' ', 'r', 'o', 'o', 't', 'c', 'a', 'u', 's', 'e', '/', 'r', 'o', 'o', 't', 'c', 'a', 'u', 's', 'e', 'l', 'a', 'w', '0', '3', '.', 'F', 'r', 'a', 'm', 'e', 'A', 'p', 'p', 'e', 'n', 'd', 's', ' ', 'r', 'o', 'o', 't', 'c', 'a', 'u', 's', 'e', '/', 'r', 'o', 'o', 't', 'c', 'a', 'u', 's', 'e', 'l', 'a', 'w', '0', '3', '.', 'F', 'r', 'a', 'm', 'e', 'S', 'c', 'a', 'n', 's', ' ', 'r', 'o', 'o', 't', 'c', 'a', 'u', 's', 'e', '/', 'r', 'o', 'o', 't', 'c', 'a', 'u', 's', 'e', 'l', 'a', 'w', '0', '3', '.', 'F', 'r', 'a', 'm', 'e', 'C', 'o', 'v', 'e', 'r', 's', ' ', 'r', 'o', 'o', 't', 'c', 'a', 'u', 's', 'e', '/', 'r', 'o', 'o', 't', 'c', 'a', 'u', 's', 'e', 'l', 'a', 'w', '0', '3', '.', 'F', 'r', 'a', 'm', 'e', 'B', 'o', 'd', 'i', 'e', 's', ' ', 'r', 'o', 'o', 't', 'c', 'a', 'u', 's', 'e', '/', 'r', 'o', 'o', 't', 'c', 'a', 'u', 's', 'e', 'l', 'a', 'w', '0', '3', '.', 'F', 'r', 'a', 'm', 'e', 'S', 't', 'o', 'p', 's', ' ', 'r', 'o', 'o', 't', 'c', 'a', 'u', 's', 'e', '/', 'r', 'o', 'o', 't', 'c', 'a', 'u', 's', 'e', 'l', 'a', 'w', '0', '3', '.', 'F', 'r', 'a', 'm', 'e', 'R', 'e', 't', 'u', 'r', 'n', 's', ' ', 'r', 'o', 'o', 't', 'c', 'a', 'u', 's', 'e', '/', 'r', 'o', 'o', 't', 'c', 'a', 'u', 's', 'e', 'l', 'a', 'w', '0', '3', '.', 'F', 'r', 'a', 'm', 'e', 'C', 'u', 't', 's', ' ', 'r', 'o', 'o', 't', 'c', 'a', 'u', 's', 'e', '/', 'r', 'o', 'o', 't', 'c', 'a', 'u', 's', 'e', 'l', 'a', 'w', '0', '3', '.', 'F', 'r', 'a', 'm', 'e', 'D', 'a', 'm', 'a', 'g', 'e', 'd', ' ', 'r', 'o', 'o', 't', 'c', 'a', 'u', 's', 'e', '/', 'r', 'o', 'o', 't', 'c', 'a', 'u', 's', 'e', 'l', 'a', 'w', '0', '3', '.', 'F', 'r', 'a', 'm', 'e', 'B', 'u', 'r', 's', 't', 's', ' ', 'r', 'o', 'o', 't', 'c', 'a', 'u', 's', 'e', '/', 'r', 'o', 'o', 't', 'c', 'a', 'u', 's', 'e', 'l', 'a', 'w', '0', '1', '.', 'N', 'u', 'm', 'U', 'i', 'n', 't', 's', ' ', 'r', 'o', 'o', 't', 'c', 'a', 'u', 's', 'e', '/', 'r', 'o', 'o', 't', 'c', 'a', 'u', 's', 'e', 'l', 'a', 'w', '2', '9', '.', 'T', 'r', 'a', 'n', 's', 'f', 'e', 'r', 'N', 'i', 'l', ' ', 'r', 'o', 'o', 't', 'c', 'a', 'u', 's', 'e', '/', 'r', 'o', 'o', 't', 'c', 'a', 'u', 's', 'e', 'l', 'a', 'w', '0', '1', '.', 'N', 'u', 'm', 'O', 'n', 'c', 'e', ' ', 'r', 'o', 'o', 't', 'c', 'a', 'u', 's', 'e', '/', 'r', 'o', 'o', 't', 'c', 'a', 'u', 's', 'e', 'l', 'a', 'w', '0', '1', '.', 'N', 'u', 'm', 'S', 'i', 'g', 'n', 's', ' ', 'r', 'o', 'o', 't', 'c', 'a', 'u', 's', 'e', '/', 'r', 'o', 'o', 't', 'c', 'a', 'u', 's', 'e', 'l', 'a', 'w', '2', '6', '.', 'R', 'i', 'n', 'g', 'F', 'i', 'l', 'e', 's', ' ', 'r', 'o', 'o', 't', 'c', 'a', 'u', 's', 'e', '/', 'r', 'o', 'o', 't', 'c', 'a', 'u', 's', 'e', 'l', 'a', 'w', '0', '1', '.', 'N', 'u', 'm', 'B', 'y', 't', 'e', 's', ' ', 'r', 'o', 'o', 't', 'c', 'a', 'u', 's', 'e', '/', 'r', 'o', 'o', 't', 'c', 'a', 'u', 's', 'e', 'l', 'a', 'w', '0', '1', '.', 'N', 'u', 'm', 'B', 'a', 'c', 'k', ' ', 'r', 'o', 'o', 't', 'c', 'a', 'u', 's', 'e', '/', 'r', 'o', 'o', 't', 'c', 'a', 'u', 's', 'e', 'l', 'a', 'w', '0', '1', '.', 'N', 'u', 'm', 'R', 'o', 'w', 's', ' ', 'r', 'o', 'o', 't', 'c', 'a', 'u', 's', 'e', '/', 'r', 'o', 'o', 't', 'c', 'a', 'u', 's', 'e', 'l', 'a', 'w', '0', '1', '.', 'N', 'u', 'm', 'R', 'e', 'a', 'd', 's', ' ', 'r', 'o', 'o', 't', 'c', 'a', 'u', 's', 'e', '/', 'r', 'o', 'o', 't', 'c', 'a', 'u', 's', 'e', 'l', 'a', 'w', '0', '1', '.', 'N', 'u', 'm', 'N', 'i', 'l', ' ', 'r', 'o', 'o', 't', 'c', 'a', 'u', 's', 'e', '/', 'r', 'o', 'o', 't', 'c', 'a', 'u', 's', 'e', 'l', 'a', 'w', '0', '3', '.', 'F', 'r', 'a', 'm', 'e', 'N', 'u', 'm', 'b', 'e', 'r', 's', ' ', 'r', 'o', 'o', 't', 'c', 'a', 'u', 's', 'e', '/', 'r', 'o', 'o', 't', 'c', 'a', 'u', 's', 'e', 'l', 'a', 'w', '2', '6', '.', 'R', 'i', 'n', 'g', 'W', 'i', 'd', 'e', ' ', 'r', 'o', 'o', 't', 'c', 'a', 'u', 's', 'e', '/', 'r', 'o', 'o', 't', 'c', 'a', 'u', 's', 'e', 'l', 'a', 'w', '2', '6', '.', 'R', 'i', 'n', 'g', 'N', 'e', 'w', 'e', 's', 't', ' ', 'r', 'o', 'o', 't', 'c', 'a', 'u', 's', 'e', '/', 'r', 'o', 'o', 't', 'c', 'a', 'u', 's', 'e', 'l', 'a', 'w', '2', '6', '.', 'R', 'i', 'n', 'g', 'P', 'l', 'a', 'y', 's', ' ', 'r', 'o', 'o', 't', 'c', 'a', 'u', 's', 'e', '/', 'r', 'o', 'o', 't', 'c', 'a', 'u', 's', 'e', 'l', 'a', 'w', '2', '6', '.', 'R', 'i', 'n', 'g', 'E', 'r', 'r', 's', ' ', 'r', 'o', 'o', 't', 'c', 'a', 'u', 's', 'e', '/', 'r', 'o', 'o', 't', 'c', 'a', 'u', 's', 'e', 'l', 'a', 'w', '2', '9', '.', 'T', 'r', 'a', 'n', 's', 'f', 'e', 'r', 'R', 'e', 'f', 'u', 's', 'e', 's', ' ', 'r', 'o', 'o', 't', 'c', 'a', 'u', 's', 'e', '/', 'r', 'o', 'o', 't', 'c', 'a', 'u', 's', 'e', 'l', 'a', 'w', '2', '9', '.', 'T', 'r', 'a', 'n', 's', 'f', 'e', 'r', 'R', 'a', 'n', 'g', 'e', ' ', 'r', 'o', 'o', 't', 'c', 'a', 'u', 's', 'e', '/', 'r', 'o', 'o', 't', 'c', 'a', 'u', 's', 'e', 'l', 'a', 'w', '2', '9', '.', 'T', 'r', 'a', 'n', 's', 'f', 'e', 'r', 'O', 'w', 'n', 's', ' ', 'r', 'o', 'o', 't', 'c', 'a', 'u', 's', 'e', '/', 'r', 'o', 'o', 't', 'c', 'a', 'u', 's', 'e', 'l', 'a', 'w', '2', '9', '.', 'T', 'r', 'a', 'n', 's', 'f', 'e', 'r', 'P', 'l', 'a', 'y', 's', ' ', 'r', 'o', 'o', 't', 'c', 'a', 'u', 's', 'e', '/', 'r', 'o', 'o', 't', 'c', 'a', 'u', 's', 'e', 'l', 'a', 'w', '2', '9', '.', 'T', 'r', 'a', 'n', 's', 'f', 'e', 'r', 'E', 'n', 'd', 's']
theorem io1 : Try.prog.initOrder = String.ofList (headA ++ ' ' :: (headB ++ ' ' :: (headC ++ ' ' :: headR))) := by kernel_rfl
theorem words_word : ∀ (w r : List Char), w.all (fun c => c != ' ') = true → wordsSigns (w ++ ' ' :: r) = w :: wordsSigns r
  | [], r, _ => by simp [wordsSigns]
  | c :: w, r, h => by
    simp only [List.all_cons, Bool.and_eq_true, bne_iff_ne, ne_eq] at h
    have ih := words_word w r h.2
    simp only [List.cons_append]
    rw [wordsSigns, ih]
    exact h.1
theorem io : ∃ ws, wordsSigns Try.prog.initOrder.toList = headA :: headB :: headC :: ws := by
  refine ⟨wordsSigns headR, ?_⟩
  rw [io1, String.toList_ofList, words_word _ _ (by decide), words_word _ _ (by decide), words_word _ _ (by decide)]
theorem m1 (ws : List (List Char)) : behindMainWord (headA :: headB :: headC :: ws) = headC :: ws := by kernel_rfl
theorem m2 : (headC == "gc".toList || headC == "spec".toList) = false := by kernel_rfl
theorem m3 : (headC == "cut".toList) = true := by kernel_rfl
theorem m4 (ws : List (List Char)) : stripLifts liftWords (headC :: ws) = ([], headC :: ws) := by kernel_rfl
theorem m5 : (headC == "carried".toList) = false := by kernel_rfl
theorem make_of (P : Program) (ws : List (List Char)) (h : wordsSigns P.initOrder.toList = headA :: headB :: headC :: ws) : P.make = some .cut := by
  unfold Program.make
  rw [h, m1]
  simp only [m2, m3, Bool.true_or, if_true, Bool.false_eq_true, if_false]
theorem headLifts_of (P : Program) (ws : List (List Char)) (h : wordsSigns P.initOrder.toList = headA :: headB :: headC :: ws) : P.headLifts = [] := by
  unfold Program.headLifts
  rw [h, m1, m4]
  simp
theorem liftsFinal_of (P : Program) (ws : List (List Char)) (h : wordsSigns P.initOrder.toList = headA :: headB :: headC :: ws) : P.liftsFinal = false := by
  unfold Program.liftsFinal
  rw [headLifts_of P ws h, h, m1]
  simp [headC]
theorem mayEnter_of (P : Program) (ws : List (List Char)) (h : wordsSigns P.initOrder.toList = headA :: headB :: headC :: ws) (h1 : P.laysLater = false) (h2 : P.bearsReflect = false) (h3 : P.doorFits [] = true) : P.mayEnter = true := by
  unfold Program.mayEnter
  rw [h, m1]
  simp only [m2, m4, m5, h1, h2, h3]
  simp [headC]
theorem headMake : Try.prog.make = some .cut := by
  obtain ⟨ws, h⟩ := io
  exact make_of _ ws h
theorem headLifted : Try.prog.liftsFinal = false := by
  obtain ⟨ws, h⟩ := io
  exact liftsFinal_of _ ws h
theorem lays : Try.prog.laysLater = false := by kernel_rfl
theorem bears : Try.prog.bearsReflect = false := by kernel_rfl
theorem door : Try.prog.doorFits [] = true := by kernel_rfl
theorem headEnter : Try.prog.mayEnter = true := by
  obtain ⟨ws, h⟩ := io
  exact mayEnter_of _ ws h lays bears door
end Go.Proofs.Ytknllmcpogoeoaa
