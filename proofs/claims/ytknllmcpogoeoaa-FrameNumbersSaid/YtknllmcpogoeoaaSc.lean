/- The parts of a file in plain Lean. No program is in sight, but for the rows of cells that hold parts. -/
import Derived.Test.YtknllmcpogoeoaaFs
import Derived.Test.YtknllmcpogoeoaaExt
namespace Go.Proofs.Ytknllmcpogoeoaa
open Go.RowKit
set_option linter.unusedVariables false
set_option linter.unusedSimpArgs false

structure PartS where
  off : Nat
  len : Nat
  body : List UInt8
  good : Bool

/-- how many bytes precede the next frame -/
def junk : List UInt8 → Nat
  | [] => 0
  | x :: r => if stb (x :: r) then 0 else 1 + junk r
theorem junk_le : ∀ l : List UInt8, junk l ≤ l.length
  | [] => by simp [junk]
  | x :: r => by
    have := junk_le r
    unfold junk
    split <;> simp <;> omega
theorem junk_pos {l : List UInt8} (h : l ≠ []) (hs : stb l = false) : 0 < junk l := by
  match l with
  | [] => exact absurd rfl h
  | x :: r => unfold junk; rw [if_neg (by rw [hs]; simp)]; omega
/-- the place of the next frame, found step by step -/
theorem junk_eq (l : List UInt8) : ∀ (k : Nat), k ≤ l.length → (∀ j, j < k → stb (l.drop j) = false) → (k = l.length ∨ stb (l.drop k) = true) → junk l = k := by
  induction l with
  | nil => intro k hk _ _; simp at hk; simp [junk, hk]
  | cons x r ih =>
    intro k hk h1 h2
    cases k with
    | zero =>
      rcases h2 with h | h
      · simp at h
      · simp only [List.drop_zero] at h; unfold junk; rw [if_pos h]
    | succ k =>
      have h0 := h1 0 (by omega)
      simp only [List.drop_zero] at h0
      unfold junk
      rw [if_neg (by rw [h0]; simp)]
      have h3 : k = r.length ∨ stb (r.drop k) = true := by
        rcases h2 with h | h
        · left; simp at h; omega
        · right; simpa using h
      rw [ih k (by simp at hk; omega) (fun j hj => by have := h1 (j + 1) (by omega); simpa using this) h3]
      omega
theorem junk_stop (l : List UInt8) : junk l = l.length ∨ stb (l.drop (junk l)) = true := by
  induction l with
  | nil => simp [junk]
  | cons x r ih =>
    by_cases h : stb (x :: r) = true
    · right; unfold junk; rw [if_pos h]; simpa using h
    · unfold junk
      rw [if_neg h]
      rcases ih with h1 | h1
      · left; simp [h1]; omega
      · right; rw [Nat.add_comm]; simpa using h1

def scanL : Nat → Nat → List UInt8 → List PartS
  | 0, _, _ => []
  | f + 1, off, l => if l.isEmpty then [] else
    if stb l then ⟨off, st l, (l.drop 8).take (n2 l), true⟩ :: scanL f (off + st l) (l.drop (st l))
    else ⟨off, junk l, [], false⟩ :: scanL f (off + junk l) (l.drop (junk l))
theorem scanL_fuel : ∀ (f f' off : Nat) (l : List UInt8), l.length ≤ f → l.length ≤ f' → scanL f off l = scanL f' off l := by
  intro f
  induction f with
  | zero =>
    intro f' off l h h'
    have : l = [] := List.eq_nil_of_length_eq_zero (by omega)
    subst this
    cases f' <;> simp [scanL]
  | succ f ih =>
    intro f' off l h h'
    cases f' with
    | zero =>
      have : l = [] := List.eq_nil_of_length_eq_zero (by omega)
      subst this
      simp [scanL]
    | succ f' =>
      by_cases he : l.isEmpty
      · simp [scanL, he]
      · simp only [scanL, he]
        have hne : l ≠ [] := by simpa using he
        have hl : 0 < l.length := List.length_pos_iff.2 hne
        by_cases hs : stb l = true
        · have : 0 < st l := by rw [st_yes hs]; omega
          rw [if_pos hs, if_pos hs, ih f' _ (l.drop (st l)) (by simp; omega) (by simp; omega)]
        · have := junk_pos hne (by simpa using hs)
          rw [if_neg hs, if_neg hs, ih f' _ (l.drop (junk l)) (by simp; omega) (by simp; omega)]
/-- the parts of a file whose first byte is byte number off -/
def scanP (off : Nat) (l : List UInt8) : List PartS := scanL l.length off l
theorem scanP_nil (off : Nat) : scanP off [] = [] := rfl
theorem scanP_good {off : Nat} {l : List UInt8} (hs : stb l = true) : scanP off l = ⟨off, st l, (l.drop 8).take (n2 l), true⟩ :: scanP (off + st l) (l.drop (st l)) := by
  have h8 := (stb_hd hs).1
  have hst : 0 < st l := by rw [st_yes hs]; omega
  unfold scanP
  cases hl : l.length with
  | zero => omega
  | succ f =>
    have hne : l.isEmpty = false := by cases l <;> simp at hl ⊢
    simp only [scanL, hne, if_pos hs]
    rw [scanL_fuel f (l.drop (st l)).length _ _ (by simp; omega) (Nat.le_refl _)]
    simp
theorem scanP_bad {off : Nat} {l : List UInt8} (h : l ≠ []) (hs : stb l = false) : scanP off l = ⟨off, junk l, [], false⟩ :: scanP (off + junk l) (l.drop (junk l)) := by
  have hj := junk_pos h hs
  unfold scanP
  cases hl : l.length with
  | zero => simp at hl; exact absurd hl h
  | succ f =>
    have hne : l.isEmpty = false := by cases l <;> simp at hl ⊢
    simp only [scanL, hne, hs]
    rw [scanL_fuel f (l.drop (junk l)).length _ _ (by simp; omega) (Nat.le_refl _)]
    simp

/-! Rows of cells that hold parts. -/
def pcells (r : Value × PartS) : List Value := [.int .i64 (r.2.off : Int), .int .i64 (r.2.len : Int), r.1, .bool r.2.good]
theorem pcells_len (rows : List (Value × PartS)) : (rows.flatMap pcells).length = rows.length * 4 := by
  induction rows with
  | nil => rfl
  | cons r rows ih => simp only [List.flatMap_cons, List.length_append, ih, List.length_cons, pcells, List.length_nil]; omega
theorem pcells_get (rows : List (Value × PartS)) : ∀ (i : Nat) (r : Value × PartS), rows[i]? = some r → ∀ j, j < 4 → (rows.flatMap pcells)[i * 4 + j]? = (pcells r)[j]? := by
  induction rows with
  | nil => intro i r h; simp at h
  | cons x rows ih =>
    intro i r h j hj
    simp only [List.flatMap_cons]
    cases i with
    | zero =>
      simp only [List.getElem?_cons_zero, Option.some.injEq] at h
      subst h
      rw [List.getElem?_append_left (by simp [pcells]; omega)]
      simp
    | succ i =>
      simp only [List.getElem?_cons_succ] at h
      rw [List.getElem?_append_right (by simp [pcells]; omega)]
      rw [← ih i r h j hj]
      congr 1
      simp [pcells]
      omega
/-- an own slice of parts: its cells, and each body a slice of bytes of the call's own -/
def Prow (e : Nat) (w : World) (B : Nat) (a : Option Addr) (c : Nat) (rows : List (Value × PartS)) : Prop :=
  w.ownsRow B e 4 (.slice a rows.length c) rows.length (rows.flatMap pcells) ∧ ∀ r ∈ rows, ∃ a n c, r.1 = .slice a n c ∧ Ow w B a n c r.2.body
theorem Prow.nil (e : Nat) (w : World) (B : Nat) : Prow e w B none 0 [] := ⟨World.ownsRow_nil w B e 4, fun r h => by cases h⟩
theorem Prow.ext {e : Nat} {w0 w : World} {B : Nat} {a : Option Addr} {c : Nat} {rows : List (Value × PartS)} (h : Prow e w0 B a c rows) (x : Ext w0 w) : Prow e w B a c rows :=
  ⟨x.row h.1, fun r hr => by
    obtain ⟨a, n, c, e, ho⟩ := h.2 r hr
    exact ⟨a, n, c, e, x.row ho⟩⟩
/-- behind an append of one more part -/
theorem Prow.snoc {e : Nat} {w w' : World} {B : Nat} {a a' : Option Addr} {c c' : Nat} {rows : List (Value × PartS)} {r : Value × PartS} (h : Prow e w B a c rows) (he : 5 ≠ e)
    (hr : ∃ a n c, r.1 = .slice a n c ∧ Ow w B a n c r.2.body) (hg : w.grownBy w' (Value.slice a rows.length c).ownBlock)
    (ho : w'.ownsRow B e 4 (.slice a' (rows.length + 1) c') (rows.length + 1) (rows.flatMap pcells ++ pcells r)) : Prow e w' B a' c' (rows ++ [r]) := by
  refine ⟨by simpa using ho, fun x hx => ?_⟩
  have : x ∈ rows ∨ x = r := by simpa using hx
  rcases this with hx | rfl
  · obtain ⟨a1, n1, c1, e1, o1⟩ := h.2 x hx
    exact ⟨a1, n1, c1, e1, row_past o1 h.1 he hg⟩
  · obtain ⟨a1, n1, c1, e1, o1⟩ := hr
    exact ⟨a1, n1, c1, e1, row_past o1 h.1 he hg⟩
end Go.Proofs.Ytknllmcpogoeoaa
